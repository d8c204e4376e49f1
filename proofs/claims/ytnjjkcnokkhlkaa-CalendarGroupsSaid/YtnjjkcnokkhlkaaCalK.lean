/- The walks of the calendar's functions, part K: Map and AddMonths, of the program and of the reference. -/
import Derived.Test.YtnjjkcnokkhlkaaCalJ
namespace Go.Proofs.Ytnjjkcnokkhlkaa
open Go.RowKit

/-- The first error of Map. -/
def mpe (f t y m d : Int) : Int := if kn f = false ∨ kn t = false then 20 else if Cal.vld f y m d = false then 21 else 0
/-- The loss that Map names. -/
def mpl (f t y m d : Int) : Int := if mpe f t y m d = 0 ∧ Cal.vld t y m d = false then 1 else 0
/-- The date that Map returns. -/
def mpy (f t y m d x : Int) : Int := if mpe f t y m d = 0 ∧ Cal.vld t y m d = true then x else 0
theorem mp_cases (f t y m d : Int) : (kn f = false ∧ mpe f t y m d = 20 ∧ mpl f t y m d = 0 ∧ ∀ x, mpy f t y m d x = 0) ∨ (kn f = true ∧ kn t = false ∧ mpe f t y m d = 20 ∧ mpl f t y m d = 0 ∧ ∀ x, mpy f t y m d x = 0)
    ∨ (kn f = true ∧ kn t = true ∧ Cal.vld f y m d = false ∧ mpe f t y m d = 21 ∧ mpl f t y m d = 0 ∧ ∀ x, mpy f t y m d x = 0)
    ∨ (kn f = true ∧ kn t = true ∧ Cal.vld f y m d = true ∧ Cal.vld t y m d = false ∧ mpe f t y m d = 0 ∧ mpl f t y m d = 1 ∧ ∀ x, mpy f t y m d x = 0)
    ∨ (kn f = true ∧ kn t = true ∧ Cal.vld f y m d = true ∧ Cal.vld t y m d = true ∧ mpe f t y m d = 0 ∧ mpl f t y m d = 0 ∧ ∀ x, mpy f t y m d x = x) := by
  unfold mpl mpy mpe
  cases kn f <;> cases kn t <;> cases Cal.vld f y m d <;> cases Cal.vld t y m d <;> simp

theorem lt_of_below_alloc2 {w w1 : World} {o o' : Obj} (hb : Below ((w.alloc o).alloc o').heap.size ((w.alloc o).alloc o') w1) : w.heap.size + 1 < w1.heap.size ∧ w.heap.size < w1.heap.size := by have := hb.size; simp at this; omega

set_option maxRecDepth 100000 in
set_option maxHeartbeats 1600000 in
theorem Map_any (f t y m d : Int) (w : World) :
    Calls Try.prog 21 #[.int .i64 f, .int .i64 t, dt y m d] w fun e w' => e = .returned (.tuple #[dt (mpy f t y m d y) (mpy f t y m d m) (mpy f t y m d d), .int .i64 (mpl f t y m d), .int .i64 (mpe f t y m d)]) ∧ Below w.heap.size w w' := by
  have K := fun c w => known_any c w
  have V := fun c w => Valid_any c y m d w
  rcases mp_cases f t y m d with ⟨h1, e1, e2, e3⟩ | ⟨h1, h2, e1, e2, e3⟩ | ⟨h1, h2, h3, e1, e2, e3⟩ | ⟨h1, h2, h3, h4, e1, e2, e3⟩ | ⟨h1, h2, h3, h4, e1, e2, e3⟩
  · rw [e1, e2, e3, e3, e3]
    have K1 := K f; rw [h1] at K1
    clear h1 e1 e2 e3 K V
    go_enter Try.func21, Try.ntmps21
    go_wp2_with (go_at_call 50; refine (K1 _).mono ?_; rintro e w1 ⟨rfl, rfl⟩)
    refine bodyPost_ret (v := .tuple #[dt 0 0 0, .int .i64 0, .int .i64 20]) (by simp [results, Try.results21, go_sem]) rfl ⟨rfl, ?_⟩
    (repeat (first | exact Below.refl _ _ | assumption | refine below_drewN ?_ _ | refine Below.drew ?_ | refine btrans ?_ (by assumption) | refine below_alloc ?_ _ | refine Below.setCell ?_ (by simp <;> omega) _ | refine Below.alloc ?_ (by simp <;> omega) _ | refine Below.setCell ?_ (by simp) _ | refine Below.alloc ?_ (by simp) _))
  · rw [e1, e2, e3, e3, e3]
    have K1 := K f; rw [h1] at K1
    have K2 := K t; rw [h2] at K2
    clear h1 h2 e1 e2 e3 K V
    have tok1 : True := trivial
    go_enter Try.func21, Try.ntmps21
    go_wp2_with (first | (go_at_call 50; have _t := tok1; refine (K1 _).mono ?_; rintro e w1 ⟨rfl, rfl⟩; clear tok1 _t) | (go_at_call 50; refine (K2 _).mono ?_; rintro e w1 ⟨rfl, rfl⟩))
    refine bodyPost_ret (v := .tuple #[dt 0 0 0, .int .i64 0, .int .i64 20]) (by simp [results, Try.results21, go_sem]) rfl ⟨rfl, ?_⟩
    (repeat (first | exact Below.refl _ _ | assumption | refine below_drewN ?_ _ | refine Below.drew ?_ | refine btrans ?_ (by assumption) | refine below_alloc ?_ _ | refine Below.setCell ?_ (by simp <;> omega) _ | refine Below.alloc ?_ (by simp <;> omega) _ | refine Below.setCell ?_ (by simp) _ | refine Below.alloc ?_ (by simp) _))
  · rw [e1, e2, e3, e3, e3]
    have K1 := K f; rw [h1] at K1
    have K2 := K t; rw [h2] at K2
    have V1 := V f; rw [h3] at V1
    clear h1 h2 h3 e1 e2 e3 K V
    have tok1 : True := trivial
    go_enter Try.func21, Try.ntmps21
    go_wp2_with (first | (go_at_call 50; have _t := tok1; refine (K1 _).mono ?_; rintro e w1 ⟨rfl, rfl⟩; clear tok1 _t) | (go_at_call 50; refine (K2 _).mono ?_; rintro e w1 ⟨rfl, rfl⟩) | (go_at_call 27; refine (V1 _).mono ?_; rintro e w1 ⟨rfl, hb⟩; obtain ⟨hcell, hfroz⟩ := bcell hb; obtain ⟨hz', hz''⟩ := lt_of_below_alloc2 hb))
    have hg := (below_alloc (below_alloc (Below.refl _ _) _) _).trans (hb.mono (below_alloc (below_alloc (Below.refl _ _) _) _).size)
    refine bodyPost_ret (v := .tuple #[dt 0 0 0, .int .i64 0, .int .i64 21]) (by simp [results, Try.results21, go_sem, hcell]) rfl ⟨rfl, ?_⟩
    (repeat (first | exact Below.refl _ _ | assumption | refine below_drewN ?_ _ | refine Below.drew ?_ | refine btrans ?_ (by assumption) | refine below_alloc ?_ _ | refine Below.setCell ?_ (by simp <;> omega) _ | refine Below.alloc ?_ (by simp <;> omega) _ | refine Below.setCell ?_ (by simp) _ | refine Below.alloc ?_ (by simp) _))
  · rw [e1, e2, e3, e3, e3]
    have K1 := K f; rw [h1] at K1
    have K2 := K t; rw [h2] at K2
    have V1 := V f; rw [h3] at V1
    have V2 := V t; rw [h4] at V2
    clear h1 h2 h3 h4 e1 e2 e3 K V
    have tok1 : True := trivial
    have tok2 : True := trivial
    go_enter Try.func21, Try.ntmps21
    go_wp2_with (first | (go_at_call 50; have _t := tok1; refine (K1 _).mono ?_; rintro e w1 ⟨rfl, rfl⟩; clear tok1 _t) | (go_at_call 50; refine (K2 _).mono ?_; rintro e w1 ⟨rfl, rfl⟩) | (go_at_call 27; have _t := tok2; refine (V1 _).mono ?_; rintro e w1 ⟨rfl, hb⟩; clear tok2 _t; obtain ⟨hcell, hfroz⟩ := bcell hb; obtain ⟨hz', hz''⟩ := lt_of_below_alloc2 hb) | (go_at_call 27; refine (V2 _).mono ?_; rintro e w2 ⟨rfl, hb2⟩; obtain ⟨hcell2, hfroz2⟩ := bcell hb2; have hzz : w.heap.size + 1 < w2.heap.size := Nat.lt_of_lt_of_le hz' hb2.size; have hzzz : w.heap.size < w2.heap.size := Nat.lt_of_succ_lt hzz))
    have hg := (below_alloc (below_alloc (Below.refl _ _) _) _).trans (hb.mono (below_alloc (below_alloc (Below.refl _ _) _) _).size)
    have hg2 := hg.trans (hb2.mono hg.size)
    refine bodyPost_ret (v := .tuple #[dt 0 0 0, .int .i64 1, .int .i64 0]) (by simp [results, Try.results21, go_sem, hcell, hcell2, hz']) rfl ⟨rfl, ?_⟩
    (repeat (first | exact Below.refl _ _ | assumption | refine below_drewN ?_ _ | refine Below.drew ?_ | refine btrans ?_ (by assumption) | refine below_alloc ?_ _ | refine Below.setCell ?_ (by simp <;> omega) _ | refine Below.alloc ?_ (by simp <;> omega) _ | refine Below.setCell ?_ (by simp) _ | refine Below.alloc ?_ (by simp) _))
  · rw [e1, e2, e3, e3, e3]
    have K1 := K f; rw [h1] at K1
    have K2 := K t; rw [h2] at K2
    have V1 := V f; rw [h3] at V1
    have V2 := V t; rw [h4] at V2
    clear h1 h2 h3 h4 e1 e2 e3 K V
    have tok1 : True := trivial
    have tok2 : True := trivial
    go_enter Try.func21, Try.ntmps21
    go_wp2_with (first | (go_at_call 50; have _t := tok1; refine (K1 _).mono ?_; rintro e w1 ⟨rfl, rfl⟩; clear tok1 _t) | (go_at_call 50; refine (K2 _).mono ?_; rintro e w1 ⟨rfl, rfl⟩) | (go_at_call 27; have _t := tok2; refine (V1 _).mono ?_; rintro e w1 ⟨rfl, hb⟩; clear tok2 _t; obtain ⟨hcell, hfroz⟩ := bcell hb; obtain ⟨hz', hz''⟩ := lt_of_below_alloc2 hb) | (go_at_call 27; refine (V2 _).mono ?_; rintro e w2 ⟨rfl, hb2⟩; obtain ⟨hcell2, hfroz2⟩ := bcell hb2; have hzz : w.heap.size + 1 < w2.heap.size := Nat.lt_of_lt_of_le hz' hb2.size; have hzzz : w.heap.size < w2.heap.size := Nat.lt_of_succ_lt hzz))
    have hg := (below_alloc (below_alloc (Below.refl _ _) _) _).trans (hb.mono (below_alloc (below_alloc (Below.refl _ _) _) _).size)
    have hg2 := hg.trans (hb2.mono hg.size)
    refine bodyPost_ret (v := .tuple #[dt y m d, .int .i64 0, .int .i64 0]) (by simp [results, Try.results21, go_sem, hcell, hcell2, hz']) rfl ⟨rfl, ?_⟩
    (repeat (first | exact Below.refl _ _ | assumption | refine below_drewN ?_ _ | refine Below.drew ?_ | refine btrans ?_ (by assumption) | refine below_alloc ?_ _ | refine Below.setCell ?_ (by simp <;> omega) _ | refine Below.alloc ?_ (by simp <;> omega) _ | refine Below.setCell ?_ (by simp) _ | refine Below.alloc ?_ (by simp) _))

end Go.Proofs.Ytnjjkcnokkhlkaa
