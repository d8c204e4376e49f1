/- Slices of integers: a slice that reads as a list (nil too), an owned row read as one; same; the parts of MapAll's loop. -/
import Derived.Test.YtnjjkcnokkhlkaaCalL
import Derived.Maps.AppendAt
import Derived.OwnWalk
namespace Go.Proofs.Ytnjjkcnokkhlkaa
open Go.RowKit

/-- The slice value '.slice A n c' reads as the list zs; its cells lie below block B. -/
def Sl (w : World) (B : Nat) (A : Option Addr) (n : Nat) (zs : List Int) : Prop :=
  zs.length = n ∧ (0 < n → ∃ b off, A = some ⟨b, off, none⟩ ∧ b < B ∧ ∀ j, j < n → w.cell? ⟨b, off + j, none⟩ = some (.int .i64 (zs.getD j 0)))

theorem Sl.none_ (w : World) (B : Nat) (A : Option Addr) : Sl w B A 0 [] := ⟨rfl, fun h => absurd h (by omega)⟩
theorem Sl.keep {w w' : World} {B n : Nat} {A : Option Addr} {zs : List Int} (h : Sl w B A n zs) (hb : Below B w w') : Sl w' B A n zs :=
  ⟨h.1, fun hn => by
    obtain ⟨b, off, e, hlt, hc⟩ := h.2 hn
    exact ⟨b, off, e, hlt, fun j hj => (hb.cell (p := ⟨b, off + j, none⟩) hlt).trans (hc j hj)⟩⟩
theorem Sl.more {w : World} {B B' n : Nat} {A : Option Addr} {zs : List Int} (h : Sl w B A n zs) (hB : B ≤ B') : Sl w B' A n zs :=
  ⟨h.1, fun hn => by
    obtain ⟨b, off, e, hlt, hc⟩ := h.2 hn
    exact ⟨b, off, e, by omega, hc⟩⟩
theorem Sl.at_ {w : World} {B n k : Nat} {A : Option Addr} {zs : List Int} (h : Sl w B A n zs) (hk : k < n) : ∃ b off, A = some ⟨b, off, none⟩ ∧ b < B ∧ w.cell? ⟨b, off + k, none⟩ = some (.int .i64 (zs.getD k 0)) := by
  obtain ⟨b, off, e, hlt, hc⟩ := h.2 (by omega)
  exact ⟨b, off, e, hlt, hc k hk⟩

theorem grown_of_below {a w : World} (h : Below a.heap.size a w) (row : Option Nat) : a.grownBy w row := ⟨h.os, h.tape, h.output, h.size, fun i hi _ => h.block i hi⟩
theorem own_below {w w' : World} {base n : Nat} {e : TypeId} {v : Value} {xs : List Value} (h : w.ownsRow base e 1 v n xs) (hb : Below w.heap.size w w') : w'.ownsRow base e 1 v n xs :=
  h.kept (grown_of_below hb none) (by cases v.ownBlock <;> simp)

/-- An owned row of integers reads as a list. -/
theorem own_reads {w : World} {base n : Nat} {e : TypeId} {v : Value} {zs : List Int} (h : w.ownsRow base e 1 v n (zs.map (Value.int .i64))) : ∃ A c, v = .slice A n c ∧ Sl w w.heap.size A n zs := by
  have hl : zs.length = n := by have := h.1; simpa using this
  have hcells := fun g => h.cells (g := g)
  rcases h.2 with ⟨hv, hn⟩ | ⟨g, cap, cur, hv, _, hg, _⟩
  · subst hn
    exact ⟨none, 0, hv, hl, fun h => absurd h (by omega)⟩
  · refine ⟨some ⟨g, 0, none⟩, cap, hv, hl, fun _ => ⟨g, 0, rfl, (Array.getElem?_eq_some_iff.1 hg).1, fun j hj => ?_⟩⟩
    have hz : (zs.map (Value.int .i64))[j]? = some (.int .i64 (zs.getD j 0)) := by
      rw [List.getElem?_map, List.getElem?_eq_getElem (by omega)]
      simp [List.getD, List.getElem?_eq_getElem (show j < zs.length by omega)]
    have := hcells g (by rw [hv]; rfl) j _ hz
    have ha : (⟨g, 0, none⟩ : Addr).add j = ⟨g, 0 + j, none⟩ := by unfold Addr.add; split <;> simp_all
    rw [ha] at this
    exact this

theorem Try.infoInt : (Try.prog.info? 3).map (fun i => (i.zero, i.size, i.bytes)) = some (some (.int .i64 0), 1, 8) := by kernel_rfl

set_option maxRecDepth 100000 in
set_option maxHeartbeats 1600000 in
/-- Two slices that read as one list are the same. -/
theorem same_any (A1 A2 : Option Addr) (n c1 c2 B : Nat) (zs : List Int) (hn : n ≤ 4611686018427387904) (w : World) (h1 : Sl w B A1 n zs) (h2 : Sl w B A2 n zs) :
    Calls Try.prog 38 #[.slice A1 n c1, .slice A2 n c2] w fun e w' => e = .returned (.bool true) ∧ Below w.heap.size w w' := by
  go_enter Try.func38, Try.ntmps38
  go_wp2
  go_loopw [5] (fun i wr => ∃ k : Nat, k ≤ n ∧ i = .int .i64 k ∧ ∃ q, wr = w.drewN q) (fun i _ => n - (intOf i).toNat)
  case atStart => exact ⟨0, Nat.zero_le _, rfl, 0, rfl⟩
  case round =>
    obtain ⟨k, hk, rfl, q, rfl⟩ := hrel
    by_cases hlt : k < n
    · obtain ⟨b1, o1, rfl, _, q1⟩ := h1.at_ hlt
      obtain ⟨b2, o2, rfl, _, q2⟩ := h2.at_ hlt
      clear h1 h2
      generalize zs.getD k 0 = z at *
      have i1 : (k : Int) < (n : Int) := by omega
      have i0 : (0 : Int) ≤ (k : Int) := by omega
      go_wp2
      go_quiet (fail)
      go_wp2
      go_roundw
      case rel => exact ⟨k + 1, by omega, by go_num, _, rfl⟩
      case measure => simp [intOf]; omega
    · go_wp2
      go_ret
      exact ⟨rfl, below_drewN (Below.refl _ _) _⟩

end Go.Proofs.Ytnjjkcnokkhlkaa
