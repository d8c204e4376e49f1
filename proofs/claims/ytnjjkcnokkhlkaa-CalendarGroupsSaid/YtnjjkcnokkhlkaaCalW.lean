/- Slices of slices of integers: one that reads as a list of lists; same as a reader only; sameGroups. -/
import Derived.Test.YtnjjkcnokkhlkaaCalS
import Derived.BigQuiet
namespace Go.Proofs.Ytnjjkcnokkhlkaa
open Go.RowKit

/-- The slice value '.slice A n c' of slices reads as the list of lists zss; all its cells lie below block B. -/
def Gl (w : World) (B : Nat) (A : Option Addr) (n : Nat) (zss : List (List Int)) : Prop :=
  zss.length = n ∧ (0 < n → ∃ b off, A = some ⟨b, off, none⟩ ∧ b < B ∧ ∀ j, j < n → ∃ A' c', w.cell? ⟨b, off + j, none⟩ = some (.slice A' (zss.getD j []).length c') ∧ Sl w B A' (zss.getD j []).length (zss.getD j []))

theorem Gl.none_ (w : World) (B : Nat) (A : Option Addr) : Gl w B A 0 [] := ⟨rfl, fun h => absurd h (by omega)⟩
theorem Gl.keep {w w' : World} {B n : Nat} {A : Option Addr} {zss : List (List Int)} (h : Gl w B A n zss) (hb : Below B w w') : Gl w' B A n zss :=
  ⟨h.1, fun hn => by
    obtain ⟨b, off, e, hlt, hc⟩ := h.2 hn
    exact ⟨b, off, e, hlt, fun j hj => by
      obtain ⟨A', c', h1, h2⟩ := hc j hj
      exact ⟨A', c', (hb.cell (p := ⟨b, off + j, none⟩) hlt).trans h1, h2.keep hb⟩⟩⟩
theorem Gl.more {w : World} {B B' n : Nat} {A : Option Addr} {zss : List (List Int)} (h : Gl w B A n zss) (hB : B ≤ B') : Gl w B' A n zss :=
  ⟨h.1, fun hn => by
    obtain ⟨b, off, e, hlt, hc⟩ := h.2 hn
    exact ⟨b, off, e, by omega, fun j hj => by
      obtain ⟨A', c', h1, h2⟩ := hc j hj
      exact ⟨A', c', h1, h2.more hB⟩⟩⟩
theorem Gl.at_ {w : World} {B n k : Nat} {A : Option Addr} {zss : List (List Int)} (h : Gl w B A n zss) (hk : k < n) :
    ∃ b off A' c', A = some ⟨b, off, none⟩ ∧ b < B ∧ w.cell? ⟨b, off + k, none⟩ = some (.slice A' (zss.getD k []).length c') ∧ Sl w B A' (zss.getD k []).length (zss.getD k []) := by
  obtain ⟨b, off, e, hlt, hc⟩ := h.2 (by omega)
  obtain ⟨A', c', h1, h2⟩ := hc k hk
  exact ⟨b, off, A', c', e, hlt, h1, h2⟩
theorem Sl.drewN {w : World} {B n : Nat} {A : Option Addr} {zs : List Int} (h : Sl w B A n zs) (q : Nat) : Sl (w.drewN q) B A n zs := h.keep (below_drewN (Below.refl _ _) q)
theorem Gl.drewN {w : World} {B n : Nat} {A : Option Addr} {zss : List (List Int)} (h : Gl w B A n zss) (q : Nat) : Gl (w.drewN q) B A n zss := h.keep (below_drewN (Below.refl _ _) q)

set_option maxRecDepth 100000 in
set_option maxHeartbeats 1600000 in
theorem same_q (A1 A2 : Option Addr) (n c1 c2 B : Nat) (zs : List Int) (hn : n ≤ 4611686018427387904) (w : World) (h1 : Sl w B A1 n zs) (h2 : Sl w B A2 n zs) :
    Calls Try.prog 38 #[.slice A1 n c1, .slice A2 n c2] w fun e w' => e = .returned (.bool true) ∧ ∃ q, w' = w.drewN q := by
  go_enter Try.func38, Try.ntmps38
  go_wp2
  go_loopw [5] (fun i wr => ∃ k : Nat, k ≤ n ∧ i = .int .i64 k ∧ ∃ q, wr = w.drewN q) (fun i _ => n - (intOf i).toNat)
  case atStart => exact ⟨0, Nat.zero_le _, rfl, 0, rfl⟩
  case round =>
    obtain ⟨k, hk, rfl, q, rfl⟩ := hrel
    by_cases hlt : k < n
    · obtain ⟨b1, o1, rfl, _, q1⟩ := h1.at_ hlt
      obtain ⟨b2, o2, rfl, _, q2⟩ := h2.at_ hlt
      clear h1 h2
      generalize zs.getD k 0 = z at *
      have i1 : (k : Int) < (n : Int) := by omega
      have i0 : (0 : Int) ≤ (k : Int) := by omega
      go_wp2
      go_quiet (fail)
      go_wp2
      go_roundw
      case rel => exact ⟨k + 1, by omega, by go_num, _, rfl⟩
      case measure => simp [intOf]; omega
    · go_wp2
      go_ret
      exact ⟨rfl, _, rfl⟩

theorem same_d (A1 A2 : Option Addr) (n c1 c2 B : Nat) (zs : List Int) (hn : n ≤ 4611686018427387904) (w : World) (h1 : Sl w B A1 n zs) (h2 : Sl w B A2 n zs) (p : Nat) :
    Calls Try.prog 38 #[.slice A1 n c1, .slice A2 n c2] (w.drewN p) fun e w' => e = .returned (.bool true) ∧ ∃ q, w' = (w.drewN p).drewN q :=
  same_q A1 A2 n c1 c2 B zs hn (w.drewN p) (h1.drewN p) (h2.drewN p)

theorem quiet_on {P : Program} {f : FuncId} {args : Array Value} {w : World} {a n : Nat} {v : Value}
    (h : Calls P f args (w.drewN (a + n)) fun e w' => e = .returned v ∧ ∃ q, w' = (w.drewN (a + n)).drewN q) :
    Calls P f args (w.drewN (a + n)) fun e w'' => e = .returned v ∧ ∃ m, w'' = w.drewN (a + m) :=
  h.mono fun _ _ ⟨he, q, hm⟩ => ⟨he, n + q, by rw [hm, World.drewN_drewN, Nat.add_assoc]⟩

set_option maxRecDepth 100000 in
set_option maxHeartbeats 1600000 in
theorem sameGroups_any (A1 A2 : Option Addr) (n c1 c2 B : Nat) (zss : List (List Int)) (hn : n ≤ 4611686018427387904) (hs : ∀ zs ∈ zss, zs.length ≤ 4611686018427387904) (w : World) (h1 : Gl w B A1 n zss) (h2 : Gl w B A2 n zss) :
    Calls Try.prog 45 #[.slice A1 n c1, .slice A2 n c2] w fun e w' => e = .returned (.bool true) ∧ Below w.heap.size w w' := by
  go_enter Try.func45, Try.ntmps45
  go_wp2
  go_loopw [5] (fun i wr => ∃ k : Nat, k ≤ n ∧ i = .int .i64 k ∧ ∃ q, wr = w.drewN q) (fun i _ => n - (intOf i).toNat)
  case atStart => exact ⟨0, Nat.zero_le _, rfl, 0, rfl⟩
  case round =>
    obtain ⟨k, hk, rfl, q, rfl⟩ := hrel
    by_cases hlt : k < n
    · obtain ⟨b1, o1, B1, d1, rfl, _, q1, s1⟩ := h1.at_ hlt
      obtain ⟨b2, o2, B2, d2, rfl, _, q2, s2⟩ := h2.at_ hlt
      have hl : (zss.getD k []).length ≤ 4611686018427387904 := by
        have hk' : k < zss.length := by rw [h1.1]; exact hlt
        have e : zss.getD k [] = zss[k] := by simp [List.getD, hk']
        rw [e]; exact hs _ (List.getElem_mem hk')
      clear h1 h2 hs
      generalize zss.getD k [] = zs at *
      have S := fun p => same_d B1 B2 zs.length d1 d2 B zs hl w s1 s2 p
      clear s1 s2
      have i1 : (k : Int) < (n : Int) := by omega
      have i0 : (0 : Int) ≤ (k : Int) := by omega
      go_wp2
      go_quiet ((go_at_call 38; exact quiet_on (S _)))
      go_wp2
      go_roundw
      case rel => exact ⟨k + 1, by omega, by go_num, _, rfl⟩
      case measure => simp [intOf]; omega
    · go_wp2
      go_ret
      exact ⟨rfl, below_drewN (Below.refl _ _) _⟩

end Go.Proofs.Ytnjjkcnokkhlkaa
