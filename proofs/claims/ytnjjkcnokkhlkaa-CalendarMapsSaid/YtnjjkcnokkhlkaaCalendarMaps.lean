/- Map and MapAll agree with the reference, and a date for which nothing is lost comes back: for every input; no condition. -/
import Derived.Test.YtnjjkcnokkhlkaaCalV
import Derived.Test.YtnjjkcnokkhlkaaCalR
import Derived.ChangeSlices
import Derived.Deep.Strs
import Derived.Lib.SmallJoins
namespace Go.Proofs.Ytnjjkcnokkhlkaa
open Go.RowKit Go.ChangeShapes Go.WideShapes Go.ChangeAt Go.Joins

theorem array6 {α : Type} {cs : Array α} (h : cs.size = 6) : ∃ c0 c1 c2 c3 c4 c5, cs = #[c0, c1, c2, c3, c4, c5] := by
  obtain ⟨l⟩ := cs
  match l, h with
  | [c0, c1, c2, c3, c4, c5], _ => exact ⟨c0, c1, c2, c3, c4, c5, rfl⟩

theorem sl_of_cells {w : World} {a : Addr} {len : Nat} {zs : List Int} (hl : zs.length = len) (h : ∀ i, i < len → w.cell? (a.add i) = some (.int .i64 (zs.getD i 0))) : Sl w w.heap.size (some a) len zs := by
  refine ⟨hl, fun hn => ?_⟩
  have h0 := h 0 hn
  obtain ⟨b, off, sp⟩ := a
  have e : sp = none := by
    cases sp with
    | none => rfl
    | some x => simp [Addr.add, World.cell?] at h0; split at h0 <;> simp at h0
  subst e
  have hb : b < w.heap.size := by
    simp only [Addr.add, if_true, World.cell?] at h0
    cases hh : w.heap[b]? with
    | none => simp [hh] at h0
    | some o => exact (Array.getElem?_eq_some_iff.1 hh).1
  refine ⟨b, off, rfl, hb, fun j hj => ?_⟩
  have := h j hj
  have ha : (⟨b, off, none⟩ : Addr).add j = ⟨b, off + j, none⟩ := by unfold Addr.add; split <;> simp_all
  rw [ha] at this
  exact this

/-- A slice of integers, opened, nil or not. -/
theorem sl_open {H : Type} {enc : TypeId × Value → H} {w : World} {base fuel : Nat} {spare : Nat → Bool} {held : Bool} {c0 : Value} {y : DataW H × List MemPlace} (h : DataW.trod enc Try.prog w base spare held fuel 31 [c0] = some y) :
    ∃ A n c zs, c0 = .slice A n c ∧ Sl w w.heap.size A n zs := by
  rcases open_ints Try.underlying31 Try.underlying3 Try.cellsInt h with ⟨hcs, _⟩ | ⟨a, len, cap, zs, hcs, _, hl, _, hz, _, hcell, _⟩
  · simp at hcs
    exact ⟨none, 0, 0, [], hcs, Sl.none_ _ _ _⟩
  · simp at hcs
    have hle : len ≤ zs.length := by rw [hz]; split <;> omega
    refine ⟨some a, len, cap, zs.take len, hcs, sl_of_cells (by simp; omega) fun i hi => ?_⟩
    rw [hcell i (by omega)]
    simp [List.getD, hi]

theorem Try.cellsMapping : Try.prog.cellsOf 48 = 6 := by kernel_rfl
theorem Try.cellsDate : Try.prog.cellsOf 23 = 3 := by kernel_rfl
theorem Try.cellsInts : Try.prog.cellsOf 31 = 1 := by kernel_rfl

set_option maxRecDepth 100000 in
theorem open_mapping {H : Type} {enc : TypeId × Value → H} {w : World} {r : Reach} {b0 base : Nat} {spare : Nat → Bool} {held : Bool} {v : Value} {d : DataW H} {p : List MemPlace}
    (hv : Value.okWide Try.prog w r b0 48 v) (h : DataW.Trod enc Try.prog w base spare held 48 v d p) :
    ∃ f t y m d A n c zs, v = mpv f t y m d A n c ∧ Sl w w.heap.size A n zs := by
  obtain ⟨cs, rfl, hsz⟩ := okWide_struct Try.underlying48 hv
  obtain ⟨c0, c1, c2, c3, c4, c5, rfl⟩ := array6 (hsz.trans Try.cellsMapping)
  obtain ⟨fuel, hf⟩ := h
  have hf' : DataW.trod enc Try.prog w base spare held fuel 48 [c0, c1, c2, c3, c4, c5] = some (d, p) := by simpa [Value.cells] using hf
  obtain ⟨y0, y1, y2, y3, n, _, _, h0, h1, h2, h3⟩ := trod_struct4 Try.underlying48 hf'
  rw [Try.cellsInt] at h0 h1
  rw [Try.cellsDate] at h2
  rw [Try.cellsInts] at h3
  simp at h0 h1 h2 h3
  obtain ⟨z0, z1, z2, n', _, _, g0, g1, g2⟩ := Deep.trod_struct3 Try.underlying23 h2
  rw [Try.cellsInt] at g0 g1 g2
  simp at g0 g1 g2
  obtain ⟨f, e0, rfl, _⟩ := DataW.trod_int Try.underlying3 h0
  obtain ⟨t, e1, rfl, _⟩ := DataW.trod_int Try.underlying3 h1
  obtain ⟨y, e2, rfl, _⟩ := DataW.trod_int Try.underlying3 g0
  obtain ⟨m, e3, rfl, _⟩ := DataW.trod_int Try.underlying3 g1
  obtain ⟨d, e4, rfl, _⟩ := DataW.trod_int Try.underlying3 g2
  obtain ⟨A, n, c, zs, e5, hs⟩ := sl_open h3
  simp at e0 e1 e2 e3 e4
  subst e0 e1 e2 e3 e4 e5
  exact ⟨f, t, y, m, d, A, n, c, zs, rfl, hs⟩

set_option maxRecDepth 100000 in
theorem calendarMaps_lifted (os : Os) (started : os.Started) (H : Type) (enc : TypeId × Value → H) :
    ReturnsInHanded {} Try.checked os 11 .any (Rows.calendarMapsSpec.pre6 enc Try.prog Try.f11 Rows.calendarMapsRow.domain false) (Rows.calendarMapsSpec.post enc Try.prog Try.f11 false true false false) := by
  refine returnsInHanded_of_change (C := Try.checked) Try.own started (by kernel_rfl) Try.func11
    (ChangeSpec.witness6 (enc := enc) (C := Try.checked) false ⟨#[], #[.agg #[.int .i64 0, .int .i64 0, .int .i64 0, .int .i64 0, .int .i64 0, .slice none 0 0]], []⟩ 8 (by kernel_rfl) (by kernel_rfl) (by kernel_rfl) (by kernel_rfl)) ?_
  intro W base args ds gs before hval0 hW _ _
  have hval : ∀ (j : Nat) t v, Try.f11.params[j]? = some t → args[j]? = some v → Value.okWide Try.prog W .any base t v := hval0
  have hW' := hW
  have hlt : ∀ p ∈ before, p.block < W.heap.size := fun p hp => hW.lt p hp
  obtain ⟨p, q, hA0, hV, rfl, hfz, hnd⟩ := hW
  have hA : DataW.TrodAll enc Try.prog W 0 (fun _ => true) true Try.f11.params.toList args.toList ds p := hA0
  have hAk := hA
  rw [Try.params11] at hA hval
  obtain ⟨v0, d0, rfl, rfl, h0⟩ := trodAll_one hA
  obtain ⟨rfl, rfl⟩ := trodVars_none hV
  obtain ⟨xf, xt, xy, xm, xd, xA, xn, xc, xzs, rfl, xhs⟩ := open_mapping (hval 0 48 v0 rfl rfl) h0
  clear hA0 hval0
  refine (maps_walk xf xt xy xm xd xA xn xc xzs W xhs).mono fun e W' ⟨he, hw⟩ => ?_
  subst he
  exact ⟨_, rfl, post_of_below (pv := []) hW' (fun _ _ _ => trodAll_mk1 (shut_bool Try.underlying4 _))
    (fun sp hsp => trodAll_kept Try.laidOut (by kernel_rfl) hAk (fun p hp => hw.same (hlt p (by simpa using hp))) (fun p hp => hsp p (by simpa using hp))) (fun _ _ => rfl) (by simp) hw (ok_one (by kernel_rfl) rfl (okWide_bool_mk Try.underlying4 _))⟩

theorem calendarMaps_holds : Rows.CalendarMapsSaid :=
  OpenClaim.holds_of_wide 11 Try.f11 rfl rfl rfl rfl rfl rfl rfl ⟨rfl, rfl, rfl, rfl, rfl⟩ rfl rfl rfl rfl rfl (by kernel_rfl) Try.func11 (by kernel_rfl)
    (of_decide_eq_true (by kernel_rfl)) (by unfold Func.isWrapper; first | (rw [if_pos (by decide +kernel)]; kernel_rfl) | (rw [if_neg (by decide +kernel)]; exact ⟨rfl, rfl⟩))
    (fun os started H enc _ => calendarMaps_lifted os started H enc)
#print axioms calendarMaps_holds

end Go.Proofs.Ytnjjkcnokkhlkaa
