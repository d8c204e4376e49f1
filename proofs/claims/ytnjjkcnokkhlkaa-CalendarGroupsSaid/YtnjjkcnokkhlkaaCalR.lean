/- Small laws for the rows: an array of two integers by value, opened. -/
import Derived.Test.YtnjjkcnokkhlkaaCalJ
import Derived.OpenShut
namespace Go.Proofs.Ytnjjkcnokkhlkaa
open Go.RowKit Go.ChangeShapes Go.WideShapes Go.ChangeAt Go.Joins

section
variable {H : Type} {enc : TypeId × Value → H} {P : Program} {w : World} {r : Reach} {base : Nat} {spare : Nat → Bool} {held : Bool}
theorem okWide_array {n : Nat} {e t : TypeId} {v : Value} (ht : P.underlying t = some (.array n e)) (h : Value.okWide P w r base t v) : ∃ cs, v = .agg cs ∧ cs.size = P.cellsOf t := by
  simp only [Value.okWide, ht] at h
  obtain ⟨cs, h1, h2, _⟩ := h
  exact ⟨cs, h1, h2⟩
end

theorem Try.cellsInt2 : Try.prog.cellsOf 41 = 2 := by kernel_rfl
theorem Try.cellsInt : Try.prog.cellsOf 3 = 1 := by kernel_rfl

set_option maxRecDepth 100000 in
theorem open_int2 {H : Type} {enc : TypeId × Value → H} {w : World} {r : Reach} {b0 base : Nat} {spare : Nat → Bool} {held : Bool} {v : Value} {d : DataW H} {p : List MemPlace}
    (hv : Value.okWide Try.prog w r b0 41 v) (h : DataW.Trod enc Try.prog w base spare held 41 v d p) :
    ∃ x0 x1 : Int, v = .agg #[.int .i64 x0, .int .i64 x1] ∧ d = .agg [.lit (.int .i64 x0), .lit (.int .i64 x1)] ∧ p = [] ∧ (Lit.int .i64 x0).wf = true ∧ (Lit.int .i64 x1).wf = true := by
  have hu : Try.prog.underlying 41 = some (.array 2 3) := Try.underlying41
  obtain ⟨cs, rfl, hsz⟩ := okWide_array hu hv
  have hc2 := Try.cellsInt2
  have hc1 := Try.cellsInt
  obtain ⟨c0, c1, rfl⟩ := array2 (hsz.trans hc2)
  obtain ⟨fuel, hf⟩ := h
  have hf' : DataW.trod enc Try.prog w base spare held fuel 41 [c0, c1] = some (d, p) := by simpa [Value.cells] using hf
  obtain ⟨xs, m, _, hx, _, hl, hi⟩ := DataW.trod_array hu hf'
  match xs, hl with
  | [y0, y1], _ =>
    have h0 := hi 0 (by omega)
    have h1 := hi 1 (by omega)
    rw [hc1] at h0 h1
    simp at h0 h1
    obtain ⟨x0, e0, rfl, w0⟩ := DataW.trod_int Try.underlying3 h0
    obtain ⟨x1, e1, rfl, w1⟩ := DataW.trod_int Try.underlying3 h1
    simp at e0 e1 hx
    subst e0 e1
    exact ⟨x0, x1, rfl, hx.1, hx.2, w0, w1⟩

theorem wf64 {x : Int} (h : (Lit.int .i64 x).wf = true) : -9223372036854775808 ≤ x ∧ x ≤ 9223372036854775807 := bounds_i64 h

end Go.Proofs.Ytnjjkcnokkhlkaa
