/- The groups of day numbers agree with the reference's: for every input; no condition. -/
import Derived.Test.YtnjjkcnokkhlkaaCalGs
import Derived.Test.YtnjjkcnokkhlkaaCalGt
import Derived.Test.YtnjjkcnokkhlkaaCalR
import Derived.ChangeSlices
import Derived.Deep.Strs
import Derived.Lib.SmallJoins
namespace Go.Proofs.Ytnjjkcnokkhlkaa
open Go.RowKit Go.ChangeShapes Go.WideShapes Go.ChangeAt Go.Joins

theorem sl_of_cells {w : World} {a : Addr} {len : Nat} {zs : List Int} (hl : zs.length = len) (h : ∀ i, i < len → w.cell? (a.add i) = some (.int .i64 (zs.getD i 0))) : Sl w w.heap.size (some a) len zs := by
  refine ⟨hl, fun hn => ?_⟩
  have h0 := h 0 hn
  obtain ⟨b, off, sp⟩ := a
  have e : sp = none := by
    cases sp with
    | none => rfl
    | some x => simp [Addr.add, World.cell?] at h0; split at h0 <;> simp at h0
  subst e
  have hb : b < w.heap.size := by
    simp only [Addr.add, if_true, World.cell?] at h0
    cases hh : w.heap[b]? with
    | none => simp [hh] at h0
    | some o => exact (Array.getElem?_eq_some_iff.1 hh).1
  refine ⟨b, off, rfl, hb, fun j hj => ?_⟩
  have := h j hj
  have ha : (⟨b, off, none⟩ : Addr).add j = ⟨b, off + j, none⟩ := by unfold Addr.add; split <;> simp_all
  rw [ha] at this
  exact this

/-- A slice of integers, opened, nil or not. -/
theorem sl_open {H : Type} {enc : TypeId × Value → H} {w : World} {base fuel : Nat} {spare : Nat → Bool} {held : Bool} {c0 : Value} {y : DataW H × List MemPlace} (h : DataW.trod enc Try.prog w base spare held fuel 31 [c0] = some y) :
    ∃ A n c zs, c0 = .slice A n c ∧ Sl w w.heap.size A n zs := by
  rcases open_ints Try.underlying31 Try.underlying3 Try.cellsInt h with ⟨hcs, _⟩ | ⟨a, len, cap, zs, hcs, _, hl, _, hz, _, hcell, _⟩
  · simp at hcs
    exact ⟨none, 0, 0, [], hcs, Sl.none_ _ _ _⟩
  · simp at hcs
    have hle : len ≤ zs.length := by rw [hz]; split <;> omega
    refine ⟨some a, len, cap, zs.take len, hcs, sl_of_cells (by simp; omega) fun i hi => ?_⟩
    rw [hcell i (by omega)]
    simp [List.getD, hi]

theorem Try.cellsGrouping : Try.prog.cellsOf 56 = 4 := by kernel_rfl
theorem Try.cellsInts : Try.prog.cellsOf 31 = 1 := by kernel_rfl
theorem Try.cellsBool : Try.prog.cellsOf 4 = 1 := by kernel_rfl
theorem array4 {α : Type} {cs : Array α} (h : cs.size = 4) : ∃ c0 c1 c2 c3, cs = #[c0, c1, c2, c3] := by
  obtain ⟨l⟩ := cs
  match l, h with
  | [c0, c1, c2, c3], _ => exact ⟨c0, c1, c2, c3, rfl⟩

set_option maxRecDepth 100000 in
theorem open_grouping {H : Type} {enc : TypeId × Value → H} {w : World} {r : Reach} {b0 base : Nat} {spare : Nat → Bool} {held : Bool} {v : Value} {d : DataW H} {p : List MemPlace}
    (hv : Value.okWide Try.prog w r b0 56 v) (h : DataW.Trod enc Try.prog w base spare held 56 v d p) :
    ∃ c f A n cp zs cy, v = .agg #[.int .i64 c, .int .i64 f, .slice A n cp, .bool cy] ∧ Sl w w.heap.size A n zs := by
  obtain ⟨cs, rfl, hsz⟩ := okWide_struct Try.underlying56 hv
  obtain ⟨c0, c1, c2, c3, rfl⟩ := array4 (hsz.trans Try.cellsGrouping)
  obtain ⟨fuel, hf⟩ := h
  have hf' : DataW.trod enc Try.prog w base spare held fuel 56 [c0, c1, c2, c3] = some (d, p) := by simpa [Value.cells] using hf
  obtain ⟨y0, y1, y2, y3, n, _, _, h0, h1, h2, h3⟩ := trod_struct4 Try.underlying56 hf'
  rw [Try.cellsInt] at h0 h1
  rw [Try.cellsInts] at h2
  rw [Try.cellsBool] at h3
  simp at h0 h1 h2 h3
  obtain ⟨c, e0, rfl, _⟩ := DataW.trod_int Try.underlying3 h0
  obtain ⟨f, e1, rfl, _⟩ := DataW.trod_int Try.underlying3 h1
  obtain ⟨A, n, cp, zs, e2, hs⟩ := sl_open h2
  obtain ⟨cy, e3, _⟩ := DataW.trod_bool Try.underlying4 h3
  simp at e0 e1 e3
  subst e0 e1 e2 e3
  exact ⟨c, f, A, n, cp, zs, cy, rfl, hs⟩

theorem Sl.next {w w' : World} {n : Nat} {A : Option Addr} {zs : List Int} (h : Sl w w.heap.size A n zs) (hb : Below w.heap.size w w') : Sl w' w'.heap.size A n zs := (h.keep hb).more hb.size
theorem Sl.alloc {w : World} {n : Nat} {A : Option Addr} {zs : List Int} (h : Sl w w.heap.size A n zs) (o : Obj) : Sl (w.alloc o) (w.alloc o).heap.size A n zs := h.next (below_alloc (Below.refl _ _) o)
theorem Gl.next {w w' : World} {n : Nat} {A : Option Addr} {zss : List (List Int)} (h : Gl w w.heap.size A n zss) (hb : Below w.heap.size w w') : Gl w' w'.heap.size A n zss := (h.keep hb).more hb.size

set_option maxRecDepth 100000 in
set_option maxHeartbeats 3200000 in
theorem groups_walk (c f : Int) (A : Option Addr) (n cp : Nat) (zs : List Int) (cy : Bool) (w : World) (hs : Sl w w.heap.size A n zs) :
    Calls Try.prog 14 #[.agg #[.int .i64 c, .int .i64 f, .slice A n cp, .bool cy]] w fun e w' => e = .returned (.bool true) ∧ Below w.heap.size w w' := by
  by_cases hn : 200 < n
  · have hn' : (200 : Int) < (n : Int) := by omega
    go_enter Try.func14, Try.ntmps14
    go_wp2_with (go_at_call 19; refine (sane_any _).mono ?_; rintro e w1 ⟨rfl, hb1⟩)
    go_ret
    refine ⟨rfl, ?_⟩
    (repeat (first | exact Below.refl _ _ | assumption | refine below_drewN ?_ _ | refine Below.drew ?_ | refine btrans ?_ (by assumption) | refine below_alloc ?_ _ | refine Below.setCell ?_ (by simp <;> omega) _ | refine Below.alloc ?_ (by simp <;> omega) _ | refine Below.setCell ?_ (by simp) _ | refine Below.alloc ?_ (by simp) _))
  · have hn' : ¬ (200 : Int) < (n : Int) := by omega
    have hlen : zs.length = n := hs.1
    have hks : (gks c f cy zs).length ≤ 200 := by unfold gks; simp; omega
    have L1 := fun w hs => Groups_any c f cy A n cp zs (by omega) w hs
    have L2 := fun w hs => rGroups_any c f cy A n cp zs (by omega) w hs
    have hlK : (gK c f cy zs).length ≤ 200 := by
      have := Grp.ukeys_length (gks c f cy zs)
      unfold gK; split <;> simp; omega
    have hlG : (gG c f cy zs).length ≤ 200 := by
      have := Grp.ukeys_length (gks c f cy zs)
      unfold gG; split <;> simp; omega
    have hlE : ∀ l ∈ gG c f cy zs, l.length ≤ 4611686018427387904 := by
      intro l hl
      unfold gG at hl
      split at hl
      · obtain ⟨x, _, rfl⟩ := List.mem_map.1 hl
        have := Grp.grp_length (gks c f cy zs) x
        omega
      · simp at hl
    have S1 := fun A1 A2 c1 c2 B w h1 h2 => same_any A1 A2 (gK c f cy zs).length c1 c2 B (gK c f cy zs) (by omega) w h1 h2
    have S2 := fun A1 A2 c1 c2 B w h1 h2 => sameGroups_any A1 A2 (gG c f cy zs).length c1 c2 B (gG c f cy zs) (by omega) hlE w h1 h2
    unfold GRP at L1 L2
    have HS := Lib.hid hs
    clear hs hlen hks hlE
    generalize gK c f cy zs = xk at *
    generalize gG c f cy zs = xg at *
    generalize gE c f zs = ee at *
    go_enter Try.func14, Try.ntmps14
    go_wp2_with (first | (go_at_call 43; refine (L1 _ (HS.out.alloc _)).mono ?_; rintro e w1 ⟨p1, q1, p2, q2, rfl, s1, s2, hb1⟩; obtain ⟨hc1, hf1⟩ := bcell hb1; have hz1 := lt_of_below_alloc hb1) | (go_at_call 44; refine (L2 _ ((HS.out.alloc _).next hb1)).mono ?_; rintro e w2 ⟨p3, q3, p4, q4, rfl, s3, s4, hb2⟩; obtain ⟨hc2, hf2⟩ := bcell hb2; have hz2 := Nat.lt_of_lt_of_le hz1 hb2.size) | (go_at_call 38; refine (S1 _ _ _ _ _ _ (s1.next hb2) s3).mono ?_; rintro e w3 ⟨rfl, hb3⟩) | (go_at_call 45; refine (S2 _ _ _ _ _ _ ((s2.next hb2).next hb3) (s4.next hb3)).mono ?_; rintro e w4 ⟨rfl, hb4⟩) | (go_at_call 19; refine (sane_any _).mono ?_; rintro e w5 ⟨rfl, hb5⟩))
    go_ret
    refine ⟨rfl, ?_⟩
    (repeat (first | exact Below.refl _ _ | assumption | refine below_drewN ?_ _ | refine Below.drew ?_ | refine btrans ?_ (by assumption) | refine below_alloc ?_ _ | refine Below.setCell ?_ (by simp <;> omega) _ | refine Below.alloc ?_ (by simp <;> omega) _ | refine Below.setCell ?_ (by simp) _ | refine Below.alloc ?_ (by simp) _))

set_option maxRecDepth 100000 in
theorem calendarGroups_lifted (os : Os) (started : os.Started) (H : Type) (enc : TypeId × Value → H) :
    ReturnsInHanded {} Try.checked os 14 .any (Rows.calendarGroupsSpec.pre6 enc Try.prog Try.f14 Rows.calendarGroupsRow.domain false) (Rows.calendarGroupsSpec.post enc Try.prog Try.f14 false true false false) := by
  refine returnsInHanded_of_change (C := Try.checked) Try.own started (by kernel_rfl) Try.func14
    (ChangeSpec.witness6 (enc := enc) (C := Try.checked) false ⟨#[], #[.agg #[.int .i64 0, .int .i64 0, .slice none 0 0, .bool false]], []⟩ 8 (by kernel_rfl) (by kernel_rfl) (by kernel_rfl) (by kernel_rfl)) ?_
  intro W base args ds gs before hval0 hW _ _
  have hval : ∀ (j : Nat) t v, Try.f14.params[j]? = some t → args[j]? = some v → Value.okWide Try.prog W .any base t v := hval0
  have hW' := hW
  have hlt : ∀ p ∈ before, p.block < W.heap.size := fun p hp => hW.lt p hp
  obtain ⟨p, q, hA0, hV, rfl, hfz, hnd⟩ := hW
  have hA : DataW.TrodAll enc Try.prog W 0 (fun _ => true) true Try.f14.params.toList args.toList ds p := hA0
  have hAk := hA
  rw [Try.params14] at hA hval
  obtain ⟨v0, d0, rfl, rfl, h0⟩ := trodAll_one hA
  obtain ⟨rfl, rfl⟩ := trodVars_none hV
  obtain ⟨xc, xf, xA, xn, xp, xzs, xy, rfl, xhs⟩ := open_grouping (hval 0 56 v0 rfl rfl) h0
  clear hA0 hval0
  refine (groups_walk xc xf xA xn xp xzs xy W xhs).mono fun e W' ⟨he, hw⟩ => ?_
  subst he
  exact ⟨_, rfl, post_of_below (pv := []) hW' (fun _ _ _ => trodAll_mk1 (shut_bool Try.underlying4 _))
    (fun sp hsp => trodAll_kept Try.laidOut (by kernel_rfl) hAk (fun p hp => hw.same (hlt p (by simpa using hp))) (fun p hp => hsp p (by simpa using hp))) (fun _ _ => rfl) (by simp) hw (ok_one (by kernel_rfl) rfl (okWide_bool_mk Try.underlying4 _))⟩

theorem calendarGroups_holds : Rows.CalendarGroupsSaid :=
  OpenClaim.holds_of_wide 14 Try.f14 rfl rfl rfl rfl rfl rfl rfl ⟨rfl, rfl, rfl, rfl, rfl⟩ rfl rfl rfl rfl rfl (by kernel_rfl) Try.func14 (by kernel_rfl)
    (of_decide_eq_true (by kernel_rfl)) (by unfold Func.isWrapper; first | (rw [if_pos (by decide +kernel)]; kernel_rfl) | (rw [if_neg (by decide +kernel)]; exact ⟨rfl, rfl⟩))
    (fun os started H enc _ => calendarGroups_lifted os started H enc)
#print axioms calendarGroups_holds

end Go.Proofs.Ytnjjkcnokkhlkaa
