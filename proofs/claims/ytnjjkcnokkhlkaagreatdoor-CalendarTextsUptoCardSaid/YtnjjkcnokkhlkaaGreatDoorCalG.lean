/- The walks of the calendar's functions, part G: DateOf, of the program and of the reference. -/
import Derived.Test.YtnjjkcnokkhlkaaGreatDoorCalF
import Derived.Deep.LoopGhost
namespace Go.Proofs.YtnjjkcnokkhlkaaGreatDoor
open Go.RowKit

theorem quiet_left {P : Program} {f : FuncId} {args : Array Value} {w : World} {n : Nat} {v : Value}
    (h : Calls P f args (w.drewN n) fun e w' => e = .returned v ∧ w.drewN n = w') : Calls P f args (w.drewN n) fun e w'' => e = .returned v ∧ ∃ m, w'' = w.drewN m :=
  h.mono fun _ _ ⟨he, hm⟩ => ⟨he, n, hm.symm⟩
theorem quiet_add_left {P : Program} {f : FuncId} {args : Array Value} {w : World} {a n : Nat} {v : Value}
    (h : Calls P f args (w.drewN (a + n)) fun e w' => e = .returned v ∧ w.drewN (a + n) = w') :
    Calls P f args (w.drewN (a + n)) fun e w'' => e = .returned v ∧ ∃ m, w'' = w.drewN (a + m) :=
  h.mono fun _ _ ⟨he, hm⟩ => ⟨he, n, hm.symm⟩

set_option maxHeartbeats 400000 in
/-- The function handed to sort.Search. -/
theorem clos_any (c n i : Int) (bc bn : Nat) (h1 : 0 ≤ i) (h2 : i ≤ 19999) (w : World) (hc : w.cell? ⟨bc, 0, none⟩ = some (.int .i64 c)) (hn : w.cell? ⟨bn, 0, none⟩ = some (.int .i64 n)) :
    Calls Tryz.prog 34 #[.int .i64 i, .pointer (some ⟨bc, 0, none⟩), .pointer (some ⟨bn, 0, none⟩)] w fun e w' => e = .returned (.bool (decide (n < Cal.first c (i - 9999)))) ∧ ∃ k, w' = w.drewN k := by
  go_enter Tryz.func34, Tryz.ntmps34
  go_wp2
  go_quiet ((go_at_call 31; exact quiet_left (first_any _ _ (by omega) (by omega) _)))
  go_wp2
  go_ret
  exact ⟨rfl, _, rfl⟩

set_option maxHeartbeats 800000 in
/-- sort.Search as DateOf calls it. -/
theorem search_any (c n Y : Int) (bc bn : Nat) (y1 : -9999 ≤ Y) (y2 : Y ≤ 9999) (f1 : Cal.first c Y ≤ n) (f2 : n < Cal.first c (Y + 1)) (w : World) (hc : w.cell? ⟨bc, 0, none⟩ = some (.int .i64 c)) (hn : w.cell? ⟨bn, 0, none⟩ = some (.int .i64 n)) :
    Calls Tryz.prog 33 #[.int .i64 19999, .func (.func 34) #[] #[.pointer (some ⟨bc, 0, none⟩), .pointer (some ⟨bn, 0, none⟩)]] w fun e w' => e = .returned (.int .i64 (Y + 10000)) ∧ ∃ k, w' = w.drewN k := by
  go_enter Tryz.func33, Tryz.ntmps33
  go_wp2
  go_loopw [5, 6] (fun s5 s6 wr => ∃ (lo hi : Int) (q : Nat), s5 = .int .i64 lo ∧ s6 = .int .i64 hi ∧ 0 ≤ lo ∧ lo ≤ Y + 10000 ∧ Y + 10000 ≤ hi ∧ hi ≤ 19999 ∧ wr = w.drewN q)
    (fun s5 s6 _ => (intOf s6 - intOf s5).toNat)
  case atStart => exact ⟨0, 19999, 0, rfl, rfl, by omega, by omega, by omega, by omega, rfl⟩
  case round =>
    obtain ⟨lo, hi, q, rfl, rfl, l1, l2, l3, l4, rfl⟩ := hrel
    by_cases hlt : lo < hi
    · by_cases ht : n < Cal.first c ((lo + hi) / 2 - 9999)
      · have hup : Y + 10000 ≤ (lo + hi) / 2 := by
          by_cases hh : (lo + hi) / 2 - 9999 ≤ Y
          · have := Cal.first_mono c _ _ hh; omega
          · omega
        have C := fun w hc hn => clos_any c n ((lo + hi) / 2) bc bn (by omega) (by omega) w hc hn
        rw [show decide (n < Cal.first c ((lo + hi) / 2 - 9999)) = true by simpa using ht] at C
        clear ht f1 f2
        go_wp2_with (go_at_call 34; refine (C _ (by exact hc) (by exact hn)).mono ?_; rintro e w' ⟨rfl, k, rfl⟩)
        go_roundw
        case rel => exact ⟨lo, (lo + hi) / 2, _, rfl, rfl, by omega, by omega, by omega, by omega, rfl⟩
        case measure => simp [intOf]; omega
      · have hup : (lo + hi) / 2 + 1 ≤ Y + 10000 := by
          by_cases hh : Y + 1 ≤ (lo + hi) / 2 - 9999
          · have := Cal.first_mono c _ _ hh; omega
          · omega
        have C := fun w hc hn => clos_any c n ((lo + hi) / 2) bc bn (by omega) (by omega) w hc hn
        rw [show decide (n < Cal.first c ((lo + hi) / 2 - 9999)) = false by simpa using ht] at C
        clear ht f1 f2
        go_wp2_with (go_at_call 34; refine (C _ (by exact hc) (by exact hn)).mono ?_; rintro e w' ⟨rfl, k, rfl⟩)
        go_roundw
        case rel => exact ⟨(lo + hi) / 2 + 1, hi, _, rfl, rfl, by omega, by omega, by omega, by omega, rfl⟩
        case measure => simp [intOf]; omega
    · obtain rfl : lo = Y + 10000 := by omega
      go_wp2
      go_ret
      exact ⟨rfl, _, rfl⟩

end Go.Proofs.YtnjjkcnokkhlkaaGreatDoor
