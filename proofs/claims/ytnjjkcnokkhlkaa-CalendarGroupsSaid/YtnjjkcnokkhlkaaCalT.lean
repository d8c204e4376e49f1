/- The walk of MapAll of the program. -/
import Derived.Test.YtnjjkcnokkhlkaaCalS
namespace Go.Proofs.Ytnjjkcnokkhlkaa
open Go.RowKit

/-- What MapAll makes of one day number: the number and the loss. -/
def maN (f t z : Int) : Int := if Cal.vld t (Cal.dY f z) (Cal.dM f z) (Cal.dD f z) = true then Cal.num t (Cal.dY f z) (Cal.dM f z) (Cal.dD f z) else 0
def maL (f t z : Int) : Int := if Cal.vld t (Cal.dY f z) (Cal.dM f z) (Cal.dD f z) = true then 0 else 1
/-- The first error of MapAll. -/
def maE (f t : Int) (zs : List Int) : Int := if kn f = false ∨ kn t = false then 20 else if zs.all (fun z => Cal.has f z) = true then 0 else 21
def maO (f t : Int) (zs : List Int) : List Int := if maE f t zs = 0 then zs.map (maN f t) else []
def maS (f t : Int) (zs : List Int) : List Int := if maE f t zs = 0 then zs.map (maL f t) else []

/-- What MapAll returns. -/
def MAP (f t : Int) (zs : List Int) (w : World) (e : Ending) (w' : World) : Prop :=
  ∃ A1 c1 A2 c2, e = .returned (.tuple #[.slice A1 (maO f t zs).length c1, .slice A2 (maS f t zs).length c2, .int .i64 (maE f t zs)]) ∧ Sl w' w'.heap.size A1 (maO f t zs).length (maO f t zs) ∧ Sl w' w'.heap.size A2 (maS f t zs).length (maS f t zs) ∧ Below w.heap.size w w'

theorem MAP_err {f t : Int} {zs : List Int} {w w' : World} (h : maE f t zs ≠ 0) (hb : Below w.heap.size w w') : MAP f t zs w (.returned (.tuple #[.slice none 0 0, .slice none 0 0, .int .i64 (maE f t zs)])) w' := by
  have h1 : maO f t zs = [] := by unfold maO; rw [if_neg h]
  have h2 : maS f t zs = [] := by unfold maS; rw [if_neg h]
  refine ⟨none, 0, none, 0, ?_, ?_, ?_, hb⟩
  · rw [h1, h2]; rfl
  · rw [h1]; exact Sl.none_ _ _ _
  · rw [h2]; exact Sl.none_ _ _ _
theorem MAP_ok {f t : Int} {zs : List Int} {n : Nat} {v1 v2 : Value} {w w' : World} (h : maE f t zs = 0) (hl : zs.length = n) (o1 : w'.ownsRow w.heap.size 3 1 v1 n ((zs.map (maN f t)).map (Value.int .i64))) (o2 : w'.ownsRow w.heap.size 3 1 v2 n ((zs.map (maL f t)).map (Value.int .i64)))
    (hb : Below w.heap.size w w') : MAP f t zs w (.returned (.tuple #[v1, v2, .int .i64 0])) w' := by
  have h1 : maO f t zs = zs.map (maN f t) := by unfold maO; rw [if_pos h]
  have h2 : maS f t zs = zs.map (maL f t) := by unfold maS; rw [if_pos h]
  obtain ⟨A1, c1, rfl, s1⟩ := own_reads o1
  obtain ⟨A2, c2, rfl, s2⟩ := own_reads o2
  subst hl
  refine ⟨A1, c1, A2, c2, ?_, ?_, ?_, hb⟩
  · rw [h1, h2, h]; simp
  · rw [h1]; simpa using s1
  · rw [h2]; simpa using s2

theorem ma_has {f t : Int} {zs : List Int} (h1 : kn f = true) (h2 : kn t = true) (k : Nat) (hk : k < zs.length) (h : Cal.has f (zs.getD k 0) = false) : maE f t zs = 21 := by
  have : zs.all (fun z => Cal.has f z) = false := by
    rw [List.all_eq_false]
    exact ⟨zs[k], List.getElem_mem hk, by have e : zs.getD k 0 = zs[k] := by simp [List.getD, hk]
                                          rw [e] at h; simp [h]⟩
  unfold maE; simp [h1, h2, this]
theorem ma_all {f t : Int} {zs : List Int} (h1 : kn f = true) (h2 : kn t = true) (h : ∀ k, k < zs.length → Cal.has f (zs.getD k 0) = true) : maE f t zs = 0 := by
  have : zs.all (fun z => Cal.has f z) = true := by
    rw [List.all_eq_true]
    intro z hz
    obtain ⟨k, hk, rfl⟩ := List.getElem_of_mem hz
    have := h k hk
    simpa [List.getD, hk] using this
  unfold maE; simp [h1, h2, this]

theorem take_snoc_map (g : Int → Int) (zs : List Int) (k : Nat) (hk : k < zs.length) : ((zs.take k).map g).map (Value.int .i64) ++ [.int .i64 (g (zs.getD k 0))] = ((zs.take (k + 1)).map g).map (Value.int .i64) := by
  have e : zs.getD k 0 = zs[k] := by simp [List.getD, hk]
  rw [List.take_succ_eq_append_getElem hk, e]
  simp only [List.map_append, List.map_cons, List.map_nil]

/-- The two rows that the loop grows lie apart. -/
def Apart (v1 v2 : Value) : Prop := (v1.ownBlock = none ∨ v1.ownBlock ≠ v2.ownBlock) ∧ (v2.ownBlock = none ∨ v2.ownBlock ≠ v1.ownBlock)

/-- Two owned rows of integers that lie apart, with all of w0 kept. -/
structure Two (w0 w : World) (v1 v2 : Value) (k m : Nat) (xs1 xs2 : List Value) : Prop where
  o1 : w.ownsRow w0.heap.size 3 1 v1 k xs1
  o2 : w.ownsRow w0.heap.size 3 1 v2 m xs2
  ap : Apart v1 v2
  b : Below w0.heap.size w0 w

theorem Two.below {w0 w w' : World} {v1 v2 : Value} {k m : Nat} {xs1 xs2 : List Value} (h : Two w0 w v1 v2 k m xs1 xs2) (hb : Below w.heap.size w w') : Two w0 w' v1 v2 k m xs1 xs2 :=
  ⟨own_below h.o1 hb, own_below h.o2 hb, h.ap, btrans h.b hb⟩
theorem Two.alloc {w0 w : World} {v1 v2 : Value} {k m : Nat} {xs1 xs2 : List Value} (h : Two w0 w v1 v2 k m xs1 xs2) (o : Obj) : Two w0 (w.alloc o) v1 v2 k m xs1 xs2 :=
  ⟨h.o1.alloc o, h.o2.alloc o, h.ap, below_alloc h.b o⟩
theorem own_ge {w : World} {base e n g : Nat} {v : Value} {xs : List Value} (h : w.ownsRow base e 1 v n xs) (hg : v.ownBlock = some g) : base ≤ g ∧ g < w.heap.size := by
  rcases h.2 with ⟨rfl, _⟩ | ⟨g', cap, cur, rfl, hb, hgg, _⟩
  · simp [Value.ownBlock] at hg
  · simp [Value.ownBlock] at hg
    subst hg
    exact ⟨hb, (Array.getElem?_eq_some_iff.1 hgg).1⟩
theorem grown_below {w0 w w' : World} {n e : Nat} {v : Value} {xs : List Value} (h : w.ownsRow w0.heap.size e 1 v n xs) (hb : Below w0.heap.size w0 w) (hg : w.grownBy w' v.ownBlock) : Below w0.heap.size w0 w' := by
  refine hb.trans ⟨hg.os, hg.tape, hg.output, hg.size, fun i hi => hg.block i (Nat.lt_of_lt_of_le hi hb.size) fun e => ?_⟩
  have := (own_ge h e.symm).1
  omega
theorem apart_new {w : World} {base e m : Nat} {v1 v2 v' : Value} {xs2 : List Value} (o2 : w.ownsRow base e 1 v2 m xs2) (ap : Apart v1 v2) (hl : v'.ownBlock = v1.ownBlock ∨ v'.ownBlock = some w.heap.size) : Apart v' v2 := by
  rcases hl with e | e
  · unfold Apart at *; rw [e]; exact ap
  · unfold Apart
    rw [e]
    cases h2 : v2.ownBlock with
    | none => simp
    | some g =>
      have := (own_ge o2 h2).2
      have hne : w.heap.size ≠ g := by omega
      simp [hne, Ne.symm hne]
theorem Apart.symm {v1 v2 : Value} (h : Apart v1 v2) : Apart v2 v1 := ⟨h.2, h.1⟩
theorem Two.swap {w0 w : World} {v1 v2 : Value} {k m : Nat} {xs1 xs2 : List Value} (h : Two w0 w v1 v2 k m xs1 xs2) : Two w0 w v2 v1 m k xs2 xs1 := ⟨h.o2, h.o1, h.ap.symm, h.b⟩
theorem Two.first {w0 w w' : World} {v1 v2 v' : Value} {k m k' : Nat} {xs1 xs2 xs' : List Value} (h : Two w0 w v1 v2 k m xs1 xs2) (ho : w'.ownsRow w0.heap.size 3 1 v' k' xs') (hg : w.grownBy w' v1.ownBlock)
    (hl : v'.ownBlock = v1.ownBlock ∨ v'.ownBlock = some w.heap.size) : Two w0 w' v' v2 k' m xs' xs2 :=
  ⟨ho, h.o2.kept hg h.ap.2, apart_new h.o2 h.ap hl, grown_below h.o1 h.b hg⟩
theorem Two.second {w0 w w' : World} {v1 v2 v' : Value} {k m k' : Nat} {xs1 xs2 xs' : List Value} (h : Two w0 w v1 v2 k m xs1 xs2) (ho : w'.ownsRow w0.heap.size 3 1 v' k' xs') (hg : w.grownBy w' v2.ownBlock)
    (hl : v'.ownBlock = v2.ownBlock ∨ v'.ownBlock = some w.heap.size) : Two w0 w' v1 v' k k' xs1 xs' := (h.swap.first ho hg hl).swap
theorem Two.snoc {w0 w : World} {v1 v2 : Value} {k : Nat} {zs : List Int} {f t x y : Int} (hk : k < zs.length) (hx : x = maN f t (zs.getD k 0)) (hy : y = maL f t (zs.getD k 0))
    (h : Two w0 w v1 v2 (k + 1) (k + 1) (((zs.take k).map (maN f t)).map (Value.int .i64) ++ [.int .i64 x]) (((zs.take k).map (maL f t)).map (Value.int .i64) ++ [.int .i64 y])) :
    Two w0 w v1 v2 (k + 1) (k + 1) (((zs.take (k + 1)).map (maN f t)).map (Value.int .i64)) (((zs.take (k + 1)).map (maL f t)).map (Value.int .i64)) := by
  rw [hx, hy, take_snoc_map _ _ _ hk, take_snoc_map _ _ _ hk] at h
  exact h

theorem ma_round {f t z : Int} (h1 : kn f = true) (h2 : kn t = true) (hh : Cal.has f z = true) :
    dke f z = 0 ∧ mpe f t (dvY f z) (dvM f z) (dvD f z) = 0 ∧ mpl f t (dvY f z) (dvM f z) (dvD f z) = maL f t z ∧ (maL f t z = 0 → dck t (mpy f t (dvY f z) (dvM f z) (dvD f z) (dvY f z)) (mpy f t (dvY f z) (dvM f z) (dvD f z) (dvM f z)) (mpy f t (dvY f z) (dvM f z) (dvD f z) (dvD f z)) = 0 ∧
      numv t (mpy f t (dvY f z) (dvM f z) (dvD f z) (dvY f z)) (mpy f t (dvY f z) (dvM f z) (dvD f z) (dvM f z)) (mpy f t (dvY f z) (dvM f z) (dvD f z) (dvD f z)) = maN f t z) ∧ (maL f t z ≠ 0 → maN f t z = 0) ∧ (maL f t z = 0 ∨ maL f t z = 1) := by
  have hd : dke f z = 0 := by unfold dke; rw [h1, hh]; rfl
  obtain ⟨e1, e2, e3⟩ := dv_yes hd
  have hv : Cal.vld f (Cal.dY f z) (Cal.dM f z) (Cal.dD f z) = true := (Cal.vld_iff _ _ _ _).2 (Cal.date_spec f z ((Cal.has_iff f z).1 hh)).1
  rw [e1, e2, e3]
  cases hv2 : Cal.vld t (Cal.dY f z) (Cal.dM f z) (Cal.dD f z) <;> simp [hd, mpe, mpl, mpy, maL, maN, numv, dck, h1, h2, hv, hv2]

set_option maxRecDepth 100000 in
set_option maxHeartbeats 3200000 in
theorem MapAll_any (f t : Int) (A : Option Addr) (n c : Nat) (zs : List Int) (hn : n ≤ 1000000) (w : World) (hs : Sl w w.heap.size A n zs) :
    Calls Try.prog 36 #[.int .i64 f, .int .i64 t, .slice A n c] w (MAP f t zs w) := by
  have K := fun x w => known_any x w
  have tok1 : True := trivial
  cases h1 : kn f
  · have K1 := K f; rw [h1] at K1
    have he : maE f t zs = 20 := by unfold maE; simp [h1]
    have H := Lib.hid he
    clear h1 he K
    go_enter Try.func36, Try.ntmps36
    go_wp2_with (go_at_call 50; refine (K1 _).mono ?_; rintro e w' ⟨rfl, rfl⟩)
    go_ret3
    have := MAP_err (f := f) (t := t) (zs := zs) (w := w) (w' := w) (by rw [H.out]; omega) (Below.refl _ _)
    rw [H.out] at this
    exact this
  cases h2 : kn t
  · have K1 := K f; rw [h1] at K1
    have K2 := K t; rw [h2] at K2
    have he : maE f t zs = 20 := by unfold maE; simp [h2]
    have H := Lib.hid he
    clear h1 h2 he K
    go_enter Try.func36, Try.ntmps36
    go_wp2_with (first | (go_at_call 50; have _t := tok1; refine (K1 _).mono ?_; rintro e w1 ⟨rfl, rfl⟩; clear tok1 _t) | (go_at_call 50; refine (K2 _).mono ?_; rintro e w1 ⟨rfl, rfl⟩))
    go_ret3
    have := MAP_err (f := f) (t := t) (zs := zs) (w := w) (w' := w) (by rw [H.out]; omega) (Below.refl _ _)
    rw [H.out] at this
    exact this
  have K1 := K f; rw [h1] at K1
  have K2 := K t; rw [h2] at K2
  have HK1 := Lib.hid h1
  have HK2 := Lib.hid h2
  clear h1 h2 K
  obtain ⟨i0, hi, hz0, hz1, hz2⟩ := info_parts Try.infoInt
  go_enter Try.func36, Try.ntmps36
  go_wp2_with (first | (go_at_call 50; have _t := tok1; refine (K1 _).mono ?_; rintro e w1 ⟨rfl, rfl⟩; clear tok1 _t) | (go_at_call 50; refine (K2 _).mono ?_; rintro e w1 ⟨rfl, rfl⟩))
  go_loopw [9, 10, 29] (fun v1 v2 i wr => ∃ k : Nat, k ≤ n ∧ i = .int .i64 k ∧ Hid (∀ j, j < k → Cal.has f (zs.getD j 0) = true) ∧ Hid (Two w wr v1 v2 k k (((zs.take k).map (maN f t)).map (Value.int .i64)) (((zs.take k).map (maL f t)).map (Value.int .i64))))
    (fun _ _ i _ => n - (intOf i).toNat)
  case atStart => exact ⟨0, Nat.zero_le _, rfl, fun j hj => absurd hj (by omega), World.ownsRow_nil _ _ _ _, World.ownsRow_nil _ _ _ _, ⟨.inl rfl, .inl rfl⟩, Below.refl _ _⟩
  case round =>
    obtain ⟨k, hk, rfl, hall, hT⟩ := hrel
    by_cases hlt : k < n
    · obtain ⟨b, off, rfl, hbB, q⟩ := hs.at_ hlt
      have q1 : wr.cell? ⟨b, off + k, none⟩ = some (.int .i64 (zs.getD k 0)) := (hT.out.b.cell (p := ⟨b, off + k, none⟩) hbB).trans q
      have hlen : zs.length = n := hs.1
      cases hh : Cal.has f (zs.getD k 0)
      · have H := Lib.hid (ma_has (t := t) HK1.out HK2.out k (by omega) hh)
        have hd : dke f (zs.getD k 0) = 21 := by unfold dke; rw [HK1.out, hh]; rfl
        have D := fun w => DateOf_any f (zs.getD k 0) w
        obtain ⟨z1, z2, z3⟩ := dv_no (show dke f (zs.getD k 0) ≠ 0 by omega)
        rw [hd, z1, z2, z3] at D
        clear hd z1 z2 z3 hh q
        generalize zs.getD k 0 = z at *
        go_wp2_with (go_at_call 17; refine (D _).mono ?_; rintro e w1 ⟨rfl, hb1⟩)
        go_ret3
        have hg : Below w.heap.size w w1 := btrans hT.out.b hb1
        have := MAP_err (f := f) (t := t) (zs := zs) (w := w) (w' := w1.alloc (.cells #[.int .i64 0, .int .i64 0, .int .i64 0] 23)) (by rw [H.out]; omega) (below_alloc hg _)
        rw [H.out] at this
        exact this
      · obtain ⟨m1, m2, m3, m4, m5, m6⟩ := ma_round HK1.out HK2.out hh
        have hall2 : Hid (∀ j, j < k + 1 → Cal.has f (zs.getD j 0) = true) := fun j hj => by
          by_cases e : j = k
          · rw [e]; exact hh
          · exact hall.out j (by omega)
        have D := fun w => DateOf_any f (zs.getD k 0) w
        rw [m1] at D
        have M := fun w => Map_any f t (dvY f (zs.getD k 0)) (dvM f (zs.getD k 0)) (dvD f (zs.getD k 0)) w
        rw [m2, m3] at M
        have tokA : True := trivial
        rcases m6 with m6 | m6
        · obtain ⟨m7, m8⟩ := m4 m6
          have HL := Lib.hid m6
          have HN := Lib.hid (show maN f t (zs.getD k 0) = maN f t (zs.getD k 0) from rfl)
          have N := fun w => Number_any t (mpy f t (dvY f (zs.getD k 0)) (dvM f (zs.getD k 0)) (dvD f (zs.getD k 0)) (dvY f (zs.getD k 0))) (mpy f t (dvY f (zs.getD k 0)) (dvM f (zs.getD k 0)) (dvD f (zs.getD k 0)) (dvM f (zs.getD k 0))) (mpy f t (dvY f (zs.getD k 0)) (dvM f (zs.getD k 0)) (dvD f (zs.getD k 0)) (dvD f (zs.getD k 0))) w
          rw [m7, m8] at N
          rw [m6] at M
          clear m1 m2 m3 m4 m5 m6 m7 m8 hh q
          generalize mpy f t (dvY f (zs.getD k 0)) (dvM f (zs.getD k 0)) (dvD f (zs.getD k 0)) (dvY f (zs.getD k 0)) = y1 at *
          generalize mpy f t (dvY f (zs.getD k 0)) (dvM f (zs.getD k 0)) (dvD f (zs.getD k 0)) (dvM f (zs.getD k 0)) = y2 at *
          generalize mpy f t (dvY f (zs.getD k 0)) (dvM f (zs.getD k 0)) (dvD f (zs.getD k 0)) (dvD f (zs.getD k 0)) = y3 at *
          generalize dvY f (zs.getD k 0) = x1 at *
          generalize dvM f (zs.getD k 0) = x2 at *
          generalize dvD f (zs.getD k 0) = x3 at *
          have HS : Hid (∀ w' v1 v2, Two w w' v1 v2 (k + 1) (k + 1) (((zs.take k).map (maN f t)).map (Value.int .i64) ++ [.int .i64 (maN f t (zs.getD k 0))]) (((zs.take k).map (maL f t)).map (Value.int .i64) ++ [.int .i64 0]) → Two w w' v1 v2 (k + 1) (k + 1) (((zs.take (k + 1)).map (maN f t)).map (Value.int .i64)) (((zs.take (k + 1)).map (maL f t)).map (Value.int .i64))) := fun w' v1 v2 h => Two.snoc (by omega) rfl HL.out.symm h
          generalize maN f t (zs.getD k 0) = r at *
          clear HL HN
          generalize zs.getD k 0 = z at *
          go_wp2_with (first | (go_at_call 17; refine (D _).mono ?_; rintro e w1 ⟨rfl, hb1⟩; have T1 := Lib.hid ((hT.out.below hb1).alloc (.cells #[.int .i64 x1, .int .i64 x2, .int .i64 x3] 23))) | (go_at_call 21; refine (M _).mono ?_; rintro e w2 ⟨rfl, hb2⟩; have T2 := Lib.hid ((T1.out.below hb2).alloc (.cells #[.int .i64 y1, .int .i64 y2, .int .i64 y3] 23))) | (go_at_call 15; refine (N _).mono ?_; rintro e w3 ⟨rfl, hb3⟩; have T3 := Lib.hid ((T2.out.below hb3).alloc (.cells #[.int .i64 r] 3))) | (at_builtin; have _t := tokA; refine wpList_append_own_at _ rfl _ _ 31 rfl w.heap.size 3 i0 (.int .i64 0) 1 8 (by kernel_rfl) hi hz0 hz1 hz2 rfl (by decide) _ _ _ rfl T3.out.o1 ⟨w3.heap.size, 0, none⟩ 1 1 [.int .i64 r] rfl rfl (cell_one_new _ _ _) (ints_oneCell .i64 [r]) (by unfold maxLen; omega) (by omega) T3.out.b.size ?_; intro v1' w4 ho4 hg4 hn4 hl4; have T4 := Lib.hid ((T3.out.first ho4 hg4 hl4).alloc (.cells #[.int .i64 0] 3)); clear tokA _t) | (at_builtin; refine wpList_append_own_at _ rfl _ _ 31 rfl w.heap.size 3 i0 (.int .i64 0) 1 8 (by kernel_rfl) hi hz0 hz1 hz2 rfl (by decide) _ _ _ rfl T4.out.o2 ⟨w4.heap.size, 0, none⟩ 1 1 [.int .i64 0] rfl rfl (cell_one_new _ _ _) (ints_oneCell .i64 [0]) (by unfold maxLen; omega) (by omega) T4.out.b.size ?_; intro v2' w5 ho5 hg5 hn5 hl5; have T5 := Lib.hid (T4.out.second ho5 hg5 hl5)))
          have T6 := HS.out _ _ _ T5.out
          go_roundw
          case rel => exact ⟨k + 1, by omega, by go_num, hall2, T6⟩
          case measure => simp [intOf]; omega
        · have m7 := m5 (by omega)
          have HL := Lib.hid m6
          have HN := Lib.hid m7.symm
          rw [m6] at M
          clear m1 m2 m3 m4 m5 m6 m7 hh q
          generalize mpy f t (dvY f (zs.getD k 0)) (dvM f (zs.getD k 0)) (dvD f (zs.getD k 0)) (dvY f (zs.getD k 0)) = y1 at *
          generalize mpy f t (dvY f (zs.getD k 0)) (dvM f (zs.getD k 0)) (dvD f (zs.getD k 0)) (dvM f (zs.getD k 0)) = y2 at *
          generalize mpy f t (dvY f (zs.getD k 0)) (dvM f (zs.getD k 0)) (dvD f (zs.getD k 0)) (dvD f (zs.getD k 0)) = y3 at *
          generalize dvY f (zs.getD k 0) = x1 at *
          generalize dvM f (zs.getD k 0) = x2 at *
          generalize dvD f (zs.getD k 0) = x3 at *
          have HS : Hid (∀ w' v1 v2, Two w w' v1 v2 (k + 1) (k + 1) (((zs.take k).map (maN f t)).map (Value.int .i64) ++ [.int .i64 0]) (((zs.take k).map (maL f t)).map (Value.int .i64) ++ [.int .i64 1]) → Two w w' v1 v2 (k + 1) (k + 1) (((zs.take (k + 1)).map (maN f t)).map (Value.int .i64)) (((zs.take (k + 1)).map (maL f t)).map (Value.int .i64))) := fun w' v1 v2 h => Two.snoc (by omega) HN.out HL.out.symm h
          clear HL HN
          generalize zs.getD k 0 = z at *
          go_wp2_with (first | (go_at_call 17; refine (D _).mono ?_; rintro e w1 ⟨rfl, hb1⟩; have T1 := Lib.hid ((hT.out.below hb1).alloc (.cells #[.int .i64 x1, .int .i64 x2, .int .i64 x3] 23))) | (go_at_call 21; refine (M _).mono ?_; rintro e w2 ⟨rfl, hb2⟩; have T2 := Lib.hid ((T1.out.below hb2).alloc (.cells #[.int .i64 y1, .int .i64 y2, .int .i64 y3] 23)); have cn := cell_one_new (w2.alloc (.cells #[.int .i64 y1, .int .i64 y2, .int .i64 y3] 23)) (.int .i64 0) 3; rw [show (w2.alloc (.cells #[.int .i64 y1, .int .i64 y2, .int .i64 y3] 23)).heap.size = w2.heap.size + 1 by simp] at cn) | (at_builtin; have _t := tokA; refine wpList_append_own_at _ rfl _ _ 31 rfl w.heap.size 3 i0 (.int .i64 0) 1 8 (by kernel_rfl) hi hz0 hz1 hz2 rfl (by decide) _ _ _ rfl (T2.out.alloc (.cells #[.int .i64 0] 3)).o1 ⟨w2.heap.size + 1, 0, none⟩ 1 1 [.int .i64 0] rfl rfl cn (ints_oneCell .i64 [0]) (by unfold maxLen; omega) (by omega) (T2.out.alloc (.cells #[.int .i64 0] 3)).b.size ?_; intro v1' w4 ho4 hg4 hn4 hl4; have T4 := Lib.hid (((T2.out.alloc (.cells #[.int .i64 0] 3)).first ho4 hg4 hl4).alloc (.cells #[.int .i64 1] 3)); clear tokA _t) | (at_builtin; refine wpList_append_own_at _ rfl _ _ 31 rfl w.heap.size 3 i0 (.int .i64 0) 1 8 (by kernel_rfl) hi hz0 hz1 hz2 rfl (by decide) _ _ _ rfl T4.out.o2 ⟨w4.heap.size, 0, none⟩ 1 1 [.int .i64 1] rfl rfl (cell_one_new _ _ _) (ints_oneCell .i64 [1]) (by unfold maxLen; omega) (by omega) T4.out.b.size ?_; intro v2' w5 ho5 hg5 hn5 hl5; have T5 := Lib.hid (T4.out.second ho5 hg5 hl5)))
          have T6 := HS.out _ _ _ T5.out
          go_roundw
          case rel => exact ⟨k + 1, by omega, by go_num, hall2, T6⟩
          case measure => simp [intOf]; omega
    · have e : k = n := by omega
      subst e
      have hlen : zs.length = k := hs.1
      have he : maE f t zs = 0 := ma_all HK1.out HK2.out fun j hj => hall.out j (by omega)
      have T := hT.out
      rw [List.take_of_length_le (by omega)] at T
      have R := Lib.hid (MAP_ok he hlen T.o1 T.o2 T.b)
      clear he T
      go_wp2
      go_ret3
      exact R.out

end Go.Proofs.Ytnjjkcnokkhlkaa
