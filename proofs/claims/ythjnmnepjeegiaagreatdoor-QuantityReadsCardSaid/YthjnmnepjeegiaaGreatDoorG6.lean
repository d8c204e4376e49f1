/- The operations of the program on texts: two. The functions that two of the program calls. The operations of the program on texts. read of the program: the number of a text in any of its forms. read and Parse of the program. -/
import Derived.Test.YthjnmnepjeegiaaGreatDoorG5
/- The operations of the program on texts: two. -/
namespace Go.Proofs.YthjnmnepjeegiaaGreatDoor
open Go.RowKit Go.Proofs.YthjnmnepjeegiaaGreatDoor.Dg Go.Proofs.YthjnmnepjeegiaaGreatDoor.Q Go.Proofs.YthjnmnepjeegiaaGreatDoor.Num Go.Proofs.YthjnmnepjeegiaaGreatDoor.Str

/-- Numbers of a canonical text are not long. -/
theorem num_sz {l : List UInt8} {q : Rat} (h : num? l = some q) : sz q ≤ 5 := by
  have hs := (num_iff.1 h).2
  unfold short at hs
  simp only [Bool.and_eq_true, decide_eq_true_eq] at hs
  have key : ∀ n, (Lib.decDigits n).length ≤ 40 → nd n ≤ 5 := by
    intro n hn
    have h1 := (dec_len_le (u := n) (k := 40) (by decide)).1 hn
    exact nd_le (Nat.lt_of_lt_of_le h1 (by rw [pw_ten]; exact Nat.pow_le_pow_right (by decide) (by decide)))
  have h1 := key _ hs.1
  have h2 := key _ hs.2
  unfold sz
  omega
theorem Fr.parts {w : World} {v : Value} {q : Rat} (h : Fr w v q) : ∃ b A n c A' n' c', v = .agg #[.bool b, .slice A n c, .slice A' n' c'] := by
  obtain ⟨A, c, A', c', e, _, _⟩ := h
  exact ⟨_, _, _, _, _, _, _, e⟩
/-- What an operation on two texts gives. -/
def bin (D : Rat → Rat → Option Rat) (l m : List UInt8) : List UInt8 := match num? l, num? m with
  | some a, some b => match D a b with
    | some q => put q
    | none => []
  | _, _ => []

set_option maxRecDepth 100000 in
set_option maxHeartbeats 6400000 in
theorem two_sure (S T : ByteArray) (hs : S.size ≤ 9223372036854775807) (ht : T.size ≤ 9223372036854775807) (w : World) (hw : Wf w) (Bx : Nat) (D : Rat → Rat → Option Rat)
    (hD : ∀ (w' : World) (v1 v2 : Value) (a b : Rat), Below w.heap.size w w' → Fr w' v1 a → Fr w' v2 b → sz a ≤ 5 → sz b ≤ 5 → Calls Tryz.prog 77 #[v1, v2, .pointer (some ⟨Bx, 0, none⟩)] w' (ReadQ (D a b) w'))
    (hsz : ∀ a b q, D a b = some q → sz a ≤ 5 → sz b ≤ 5 → sz q ≤ 700000) :
    Calls Tryz.prog 42 #[.string S, .string T, .func (.func 77) #[] #[.pointer (some ⟨Bx, 0, none⟩)]] w fun e w' => e = .returned (.string ⟨(bin D (bl S) (bl T)).toArray⟩) ∧ Below w.heap.size w w' := by
  have R1 := fun w' (hb : Below w.heap.size w w') => read_any S hs w' (hw.up hb)
  have R2 := fun w' (hb : Below w.heap.size w w') => read_any T ht w' (hw.up hb)
  obtain ⟨X, hX⟩ : ∃ X, bin D (bl S) (bl T) = X := ⟨_, rfl⟩
  rw [hX]
  cases h1 : num? (bl S) with
  | none =>
    rw [h1] at R1
    have R2' := R2
    have HX := Lib.hid (show X = [] by rw [← hX]; unfold bin; rw [h1])
    clear R2 hs ht h1 hD hsz hX
    generalize num? (bl T) = o2 at *
    go_enter Tryz.func42, Tryz.ntmps42
    go_wp2_with (first
      | (go_at_call 10; ((with_reducible refine (R2' _ B1.out).mono ?_); rintro e w2 ⟨x, A3, l3, c3, A4, l4, c4, rfl, hb, hF⟩; have B2 := Lib.hid (btrans (btrans B1.out hb) (box_rs w2 (.bool x) (.slice A3 l3 c3) (.slice A4 l4 c4) 41).2.1); clear hb hF))
      | (go_at_call 10; ((with_reducible refine (R1 _ (Below.refl _ _)).mono ?_); rintro e w1 ⟨y, A1, l1, c1, A2, l2, c2, rfl, hb, hF⟩; have bx := box_rs w1 (.bool y) (.slice A1 l1 c1) (.slice A2 l2 c2) 41;  have B1 := Lib.hid (btrans hb bx.2.1); have L1 := Lib.hid bx.1; have S1 := Lib.hid bx.2.2; clear hb hF bx)))
    go_ret
    exact ⟨by rw [HX.out]; rfl, B2.out⟩
  | some a =>
    cases h2 : num? (bl T) with
    | none =>
      rw [h1] at R1
      rw [h2] at R2
      have HX := Lib.hid (show X = [] by rw [← hX]; unfold bin; rw [h1, h2])
      clear hs ht h1 h2 hD hsz hX
      go_enter Tryz.func42, Tryz.ntmps42
      go_wp2_with (first
        | (go_at_call 10; ((with_reducible refine (R2 _ B1.out).mono ?_); rintro e w2 ⟨x, A3, l3, c3, A4, l4, c4, rfl, hb, hF⟩; have bx := box_rs w2 (.bool x) (.slice A3 l3 c3) (.slice A4 l4 c4) 41;  have B2 := Lib.hid (btrans (btrans B1.out hb) bx.2.1); have L2 := Lib.hid ((L1.out.below hb S1.out).below bx.2.1 (Nat.lt_of_lt_of_le S1.out hb.size)); obtain ⟨p0, p1, p2⟩ := L2.out.cells; clear hb hF bx))
        | (go_at_call 10; ((with_reducible refine (R1 _ (Below.refl _ _)).mono ?_); rintro e w1 ⟨y, A1, l1, c1, A2, l2, c2, rfl, hb, hF⟩; have bx := box_rs w1 (.bool y) (.slice A1 l1 c1) (.slice A2 l2 c2) 41;  have B1 := Lib.hid (btrans hb bx.2.1); have L1 := Lib.hid bx.1; have S1 := Lib.hid bx.2.2; clear hb hF bx)))
      go_ret
      exact ⟨by rw [HX.out]; rfl, B2.out⟩
    | some b =>
      have z1 := num_sz h1
      have z2 := num_sz h2
      rw [h1] at R1
      rw [h2] at R2
      have hX2 : X = match D a b with
        | some q => put q
        | none => [] := by rw [← hX]; unfold bin; rw [h1, h2]
      clear hs ht h1 h2 hX
      have hD' := fun w' v1 v2 hb f1 f2 => hD w' v1 v2 a b hb f1 f2 z1 z2
      have hz' := fun q h => hsz a b q h z1 z2
      clear hD hsz z1 z2
      obtain ⟨o, ho⟩ : ∃ o, D a b = o := ⟨_, rfl⟩
      rw [ho] at hD' hz' hX2
      clear ho
      cases o with
      | none =>
        have HX := Lib.hid (show X = [] from hX2)
        clear hX2
        go_enter Tryz.func42, Tryz.ntmps42
        go_wp2_with (first
          | (go_at_call 77; ((with_reducible refine (hD' _ _ _ B2.out F1'.out F2.out).mono ?_); rintro e w3 ⟨u, A5, l5, c5, A6, l6, c6, rfl, hb, hF⟩; have B3 := Lib.hid (btrans (btrans B2.out hb) (box_rs w3 (.bool u) (.slice A5 l5 c5) (.slice A6 l6 c6) 41).2.1); clear hb hF))
          | (go_at_call 10; ((with_reducible refine (R2 _ B1.out).mono ?_); rintro e w2 ⟨x, A3, l3, c3, A4, l4, c4, rfl, hb, hF⟩; have bx := box_rs w2 (.bool x) (.slice A3 l3 c3) (.slice A4 l4 c4) 41; have F2 := Lib.hid ((hF _ rfl).up bx.2.1); have F1' := Lib.hid ((F1.out.up hb).up bx.2.1); have B2 := Lib.hid (btrans (btrans B1.out hb) bx.2.1); have L2 := Lib.hid ((L1.out.below hb S1.out).below bx.2.1 (Nat.lt_of_lt_of_le S1.out hb.size)); obtain ⟨p0, p1, p2⟩ := L2.out.cells; clear hb hF bx))
          | (go_at_call 10; ((with_reducible refine (R1 _ (Below.refl _ _)).mono ?_); rintro e w1 ⟨y, A1, l1, c1, A2, l2, c2, rfl, hb, hF⟩; have bx := box_rs w1 (.bool y) (.slice A1 l1 c1) (.slice A2 l2 c2) 41; have F1 := Lib.hid ((hF _ rfl).up bx.2.1); have B1 := Lib.hid (btrans hb bx.2.1); have L1 := Lib.hid bx.1; have S1 := Lib.hid bx.2.2; clear hb hF bx)))
        go_ret
        exact ⟨by rw [HX.out]; rfl, B3.out⟩
      | some q =>
        have hzq := hz' q rfl
        have HZ := Lib.hid hzq
        have VL := fun w' v (hb : Below w.heap.size w w') (h : Fr w' v q) => fvalue_any v q w' (hw.up hb) h hzq
        have HX := Lib.hid (show X = put q from hX2)
        clear hz' hzq hX2
        go_enter Tryz.func42, Tryz.ntmps42
        go_wp2_with (first
          | (go_at_call 13; ((with_reducible refine (VL _ _ B3.out F3.out).mono ?_); rintro e w4 ⟨rfl, hb⟩; have B4 := Lib.hid (btrans B3.out hb); clear hb))
          | (go_at_call 77; ((with_reducible refine (hD' _ _ _ B2.out F1'.out F2.out).mono ?_); rintro e w3 ⟨u, A5, l5, c5, A6, l6, c6, rfl, hb, hF⟩; have bx := box_rs w3 (.bool u) (.slice A5 l5 c5) (.slice A6 l6 c6) 41; have B3 := Lib.hid (btrans (btrans B2.out hb) bx.2.1); have F3 := Lib.hid ((hF _ rfl).up bx.2.1); clear hb hF bx))
          | (go_at_call 10; ((with_reducible refine (R2 _ B1.out).mono ?_); rintro e w2 ⟨x, A3, l3, c3, A4, l4, c4, rfl, hb, hF⟩; have bx := box_rs w2 (.bool x) (.slice A3 l3 c3) (.slice A4 l4 c4) 41; have F2 := Lib.hid ((hF _ rfl).up bx.2.1); have F1' := Lib.hid ((F1.out.up hb).up bx.2.1); have B2 := Lib.hid (btrans (btrans B1.out hb) bx.2.1); have L2 := Lib.hid ((L1.out.below hb S1.out).below bx.2.1 (Nat.lt_of_lt_of_le S1.out hb.size)); obtain ⟨p0, p1, p2⟩ := L2.out.cells; clear hb hF bx))
          | (go_at_call 10; ((with_reducible refine (R1 _ (Below.refl _ _)).mono ?_); rintro e w1 ⟨y, A1, l1, c1, A2, l2, c2, rfl, hb, hF⟩; have bx := box_rs w1 (.bool y) (.slice A1 l1 c1) (.slice A2 l2 c2) 41; have F1 := Lib.hid ((hF _ rfl).up bx.2.1); have B1 := Lib.hid (btrans hb bx.2.1); have L1 := Lib.hid bx.1; have S1 := Lib.hid bx.2.2; clear hb hF bx)))
        go_ret
        exact ⟨by rw [HX.out]; rfl, B4.out⟩

end Go.Proofs.YthjnmnepjeegiaaGreatDoor

/- The functions that two of the program calls. -/
namespace Go.Proofs.YthjnmnepjeegiaaGreatDoor
open Go.RowKit Go.Proofs.YthjnmnepjeegiaaGreatDoor.Dg Go.Proofs.YthjnmnepjeegiaaGreatDoor.Q Go.Proofs.YthjnmnepjeegiaaGreatDoor.Num Go.Proofs.YthjnmnepjeegiaaGreatDoor.Str

theorem K3.giveT {w w' : World} {a0 a1 a2 b0 b1 b2 : Value} {t : TypeId} {q : Rat} {A A' : Option Addr} {c c' : Nat} (h : K3 w w' a0 a1 a2 b0 b1 b2 (.bool false) (.slice none 0 0) (.slice none 0 0) t)
    (n1 : Nt .u32 w' w'.heap.size A c (top q)) (n2 : Nt .u32 w' w'.heap.size A' c' q.den) :
    ReadQ (some q) w (.returned (.tuple #[.agg #[.bool (ngt q), .slice A (nd (top q)) c, .slice A' (nd q.den) c'], .bool true])) (put3 w' (w.heap.size + 2) (.bool (ngt q)) (.slice A (nd (top q)) c) (.slice A' (nd q.den) c')) := by
  obtain ⟨v, e, hF, hb⟩ := h.give n1 n2
  injection e with e
  subst e
  exact ⟨_, _, _, _, _, _, _, rfl, hb, fun q' h' => by injection h' with h'; subst h'; exact hF⟩
theorem K3.giveN {w w' : World} {a0 a1 a2 b0 b1 b2 : Value} {t : TypeId} {b : Bool} {A A' : Option Addr} {n c n' c' : Nat} (h : K3 w w' a0 a1 a2 b0 b1 b2 (.bool false) (.slice none 0 0) (.slice none 0 0) t) :
    ReadQ none w (.returned (.tuple #[.agg #[.bool b, .slice A n c, .slice A' n' c'], .bool false])) (put3 w' (w.heap.size + 2) (.bool b) (.slice A n c) (.slice A' n' c')) :=
  ⟨_, _, _, _, _, _, _, rfl, (h.stored _ _ _).2.2.2.2, fun q' h' => by cases h'⟩
theorem K3.far {w w' : World} {a0 a1 a2 b0 b1 b2 c0 c1 c2 : Value} {t : TypeId} {g i : Nat} {v : Value} (h : K3 w w' a0 a1 a2 b0 b1 b2 c0 c1 c2 t) (hc : w.cell? ⟨g, i, none⟩ = some v) : w'.cell? ⟨g, i, none⟩ = some v :=
  (h.2.2.2.2.cell (p := ⟨g, i, none⟩) (World.block_lt_of_cell? _ _ (by rw [hc]))).trans hc

set_option maxRecDepth 100000 in
set_option maxHeartbeats 3200000 in
theorem sure_add (v1 v2 : Value) (a b : Rat) (Bx : Nat) (w : World) (hB : w.cell? ⟨Bx, 0, none⟩ = some (.func (.func 44) #[] #[])) (h1 : Fr w v1 a) (h2 : Fr w v2 b) (z1 : sz a ≤ 5) (z2 : sz b ≤ 5) :
    Calls Tryz.prog 77 #[v1, v2, .pointer (some ⟨Bx, 0, none⟩)] w (ReadQ (some (a + b)) w) := by
  have H1 := Lib.hid h1
  have H2 := Lib.hid h2
  obtain ⟨A1, c1, A2, c2, rfl, n1, n2⟩ := h1
  obtain ⟨A3, c3, A4, c4, rfl, n3, n4⟩ := h2
  have k0 := Lib.hid (K3.start w (.bool (ngt a)) (.slice A1 (nd (top a)) c1) (.slice A2 (nd a.den) c2) (.bool (ngt b)) (.slice A3 (nd (top b)) c3) (.slice A4 (nd b.den) c4) (.bool false) (.slice none 0 0) (.slice none 0 0) 41)
  obtain ⟨p0, p1, p2, p3, p4, p5⟩ := k0.out.six
  have q0 := k0.out.far hB
  have OP := fun w' (hb : Below w.heap.size w w') => fadd_any _ _ a b w' (H1.out.up hb) (H2.out.up hb) (by omega)
  clear n1 n2 n3 n4 H1 H2 hB z1 z2
  unfold W3 at p0 p1 p2 p3 p4 p5 k0 q0
  generalize a + b = q at *
  generalize ngt a = x1 at *
  generalize ngt b = x2 at *
  generalize nd (top a) = l1 at *
  generalize nd (top b) = l2 at *
  generalize nd a.den = l3 at *
  generalize nd b.den = l4 at *
  go_enter Tryz.func77, Tryz.ntmps77
  go_wp2_with (go_at_call 44; go_loud (refine (OP _ k0.out.2.2.2.2).mono ?_; rintro e w1 ⟨v, rfl, ⟨A7, c7, A8, c8, rfl, n7, n8⟩, hb⟩; have k1 := Lib.hid (k0.out.up hb); have N7 := Lib.hid n7; have N8 := Lib.hid n8; obtain ⟨r0, r1, r2⟩ := k1.out.2.2.1.cells; obtain ⟨f0, f1, f2⟩ := k1.out.2.2.1.frozen; clear n7 n8 hb))
  refine bodyPost_ret (v := .tuple #[.agg #[.bool (ngt q), .slice A7 (nd (top q)) c7, .slice A8 (nd q.den) c8], .bool true]) (by simp [results, Tryz.results77, go_sem, r0, r1, r2]) rfl ?_
  exact k1.out.giveT N7.out N8.out

set_option maxRecDepth 100000 in
set_option maxHeartbeats 3200000 in
theorem sure_mul (v1 v2 : Value) (a b : Rat) (Bx : Nat) (w : World) (hB : w.cell? ⟨Bx, 0, none⟩ = some (.func (.func 11) #[] #[])) (h1 : Fr w v1 a) (h2 : Fr w v2 b) (z1 : sz a ≤ 5) (z2 : sz b ≤ 5) :
    Calls Tryz.prog 77 #[v1, v2, .pointer (some ⟨Bx, 0, none⟩)] w (ReadQ (some (a * b)) w) := by
  have H1 := Lib.hid h1
  have H2 := Lib.hid h2
  obtain ⟨A1, c1, A2, c2, rfl, n1, n2⟩ := h1
  obtain ⟨A3, c3, A4, c4, rfl, n3, n4⟩ := h2
  have k0 := Lib.hid (K3.start w (.bool (ngt a)) (.slice A1 (nd (top a)) c1) (.slice A2 (nd a.den) c2) (.bool (ngt b)) (.slice A3 (nd (top b)) c3) (.slice A4 (nd b.den) c4) (.bool false) (.slice none 0 0) (.slice none 0 0) 41)
  obtain ⟨p0, p1, p2, p3, p4, p5⟩ := k0.out.six
  have q0 := k0.out.far hB
  have OP := fun w' (hb : Below w.heap.size w w') => fmul_any _ _ a b w' (H1.out.up hb) (H2.out.up hb) (by omega)
  clear n1 n2 n3 n4 H1 H2 hB z1 z2
  unfold W3 at p0 p1 p2 p3 p4 p5 k0 q0
  generalize a * b = q at *
  generalize ngt a = x1 at *
  generalize ngt b = x2 at *
  generalize nd (top a) = l1 at *
  generalize nd (top b) = l2 at *
  generalize nd a.den = l3 at *
  generalize nd b.den = l4 at *
  go_enter Tryz.func77, Tryz.ntmps77
  go_wp2_with (go_at_call 11; go_loud (refine (OP _ k0.out.2.2.2.2).mono ?_; rintro e w1 ⟨v, rfl, ⟨A7, c7, A8, c8, rfl, n7, n8⟩, hb⟩; have k1 := Lib.hid (k0.out.up hb); have N7 := Lib.hid n7; have N8 := Lib.hid n8; obtain ⟨r0, r1, r2⟩ := k1.out.2.2.1.cells; obtain ⟨f0, f1, f2⟩ := k1.out.2.2.1.frozen; clear n7 n8 hb))
  refine bodyPost_ret (v := .tuple #[.agg #[.bool (ngt q), .slice A7 (nd (top q)) c7, .slice A8 (nd q.den) c8], .bool true]) (by simp [results, Tryz.results77, go_sem, r0, r1, r2]) rfl ?_
  exact k1.out.giveT N7.out N8.out

/-- What Div computes. -/
def dDiv (a b : Rat) : Option Rat := if b = 0 then none else some (a / b)
end Go.Proofs.YthjnmnepjeegiaaGreatDoor

/- The operations of the program on texts. -/
namespace Go.Proofs.YthjnmnepjeegiaaGreatDoor
open Go.RowKit Go.Proofs.YthjnmnepjeegiaaGreatDoor.Dg Go.Proofs.YthjnmnepjeegiaaGreatDoor.Q Go.Proofs.YthjnmnepjeegiaaGreatDoor.Num Go.Proofs.YthjnmnepjeegiaaGreatDoor.Str

def dAdd (a b : Rat) : Option Rat := some (a + b)
def dSub (a b : Rat) : Option Rat := some (a - b)
def dMul (a b : Rat) : Option Rat := some (a * b)
theorem dAdd_sz : ∀ a b q, dAdd a b = some q → sz a ≤ 5 → sz b ≤ 5 → sz q ≤ 700000 := by
  intro a b q h h1 h2
  injection h with h; subst h
  have := sz_add a b; omega
theorem dSub_sz : ∀ a b q, dSub a b = some q → sz a ≤ 5 → sz b ≤ 5 → sz q ≤ 700000 := by
  intro a b q h h1 h2
  injection h with h; subst h
  have := sz_sub a b; omega
theorem dMul_sz : ∀ a b q, dMul a b = some q → sz a ≤ 5 → sz b ≤ 5 → sz q ≤ 700000 := by
  intro a b q h h1 h2
  injection h with h; subst h
  have := sz_mul a b; omega
theorem dDiv_sz : ∀ a b q, dDiv a b = some q → sz a ≤ 5 → sz b ≤ 5 → sz q ≤ 700000 := by
  intro a b q h h1 h2
  unfold dDiv at h
  split at h
  · cases h
  · rename_i hb
    injection h with h; subst h
    have := sz_div (a := a) hb; omega
/-- What a function gives that returns a text. -/
def GiveT (w : World) (l : List UInt8) (e : Ending) (w' : World) : Prop := e = .returned (.string ⟨l.toArray⟩) ∧ Below w.heap.size w w'
theorem Tryz.hmf (fn : Fn) (first cap : Array Value) (w : World) : (Instr.makeFunc fn first cap).run Tryz.prog w = .ok (.func fn first cap) w := rfl

set_option maxRecDepth 100000 in
set_option maxHeartbeats 1600000 in
theorem sure_any (v : Value) (h1 : v.oneCell' = true) (hk : ∃ n, v = .func (.func n) #[] #[]) (w : World) : Calls Tryz.prog 43 #[v] w fun e w' => e = .returned (.func (.func 77) #[] #[.pointer (some ⟨w.heap.size, 0, none⟩)]) ∧ w.alloc (.cells #[v] 93) = w' := by
  have hmf := Tryz.hmf
  obtain ⟨n, rfl⟩ := hk
  clear h1
  go_enter Tryz.func43, Tryz.ntmps43
  go_wp2
  go_ret
  exact ⟨rfl, rfl⟩

set_option maxRecDepth 100000 in
set_option maxHeartbeats 1600000 in
theorem qAdd_any (S T : ByteArray) (hs : S.size ≤ 9223372036854775807) (ht : T.size ≤ 9223372036854775807) (w : World) (hw : Wf w) :
    Calls Tryz.prog 20 #[.string S, .string T] w (GiveT w (bin dAdd (bl S) (bl T))) := by
  have SU := sure_any (.func (.func 44) #[] #[]) rfl ⟨_, rfl⟩ w
  have b1 := (Below.refl w.heap.size w).alloc (Nat.le_refl _) (.cells #[.func (.func 44) #[] #[]] 93)
  have hc : (w.alloc (.cells #[.func (.func 44) #[] #[]] 93)).cell? ⟨w.heap.size, 0, none⟩ = some (.func (.func 44) #[] #[]) := World.cell?_alloc_mark w _ _ _ 0
  have hlt : w.heap.size < (w.alloc (.cells #[.func (.func 44) #[] #[]] 93)).heap.size := by simp
  have TW := two_sure S T hs ht (w.alloc (.cells #[.func (.func 44) #[] #[]] 93)) (hw.up b1) w.heap.size dAdd
    (fun w' v1 v2 a b hb f1 f2 z1 z2 => sure_add v1 v2 a b w.heap.size w' ((hb.cell (p := ⟨w.heap.size, 0, none⟩) hlt).trans hc) f1 f2 z1 z2) dAdd_sz
  have B1 := Lib.hid b1
  clear hs ht hw b1 hc hlt
  generalize bin dAdd (bl S) (bl T) = X at *
  go_enter Tryz.func20, Tryz.ntmps20
  go_wp2_with (first
    | (go_at_call 42; ((with_reducible refine TW.mono ?_); rintro e w2 ⟨rfl, hb⟩; have B2 := Lib.hid (B1.out.trans (hb.mono B1.out.size)); clear hb))
    | (go_at_call 43; ((with_reducible refine SU.mono ?_); rintro e w1 ⟨rfl, rfl⟩)))
  go_ret
  exact ⟨rfl, B2.out⟩

set_option maxRecDepth 100000 in
set_option maxHeartbeats 1600000 in
theorem qMul_any (S T : ByteArray) (hs : S.size ≤ 9223372036854775807) (ht : T.size ≤ 9223372036854775807) (w : World) (hw : Wf w) :
    Calls Tryz.prog 50 #[.string S, .string T] w (GiveT w (bin dMul (bl S) (bl T))) := by
  have SU := sure_any (.func (.func 11) #[] #[]) rfl ⟨_, rfl⟩ w
  have b1 := (Below.refl w.heap.size w).alloc (Nat.le_refl _) (.cells #[.func (.func 11) #[] #[]] 93)
  have hc : (w.alloc (.cells #[.func (.func 11) #[] #[]] 93)).cell? ⟨w.heap.size, 0, none⟩ = some (.func (.func 11) #[] #[]) := World.cell?_alloc_mark w _ _ _ 0
  have hlt : w.heap.size < (w.alloc (.cells #[.func (.func 11) #[] #[]] 93)).heap.size := by simp
  have TW := two_sure S T hs ht (w.alloc (.cells #[.func (.func 11) #[] #[]] 93)) (hw.up b1) w.heap.size dMul
    (fun w' v1 v2 a b hb f1 f2 z1 z2 => sure_mul v1 v2 a b w.heap.size w' ((hb.cell (p := ⟨w.heap.size, 0, none⟩) hlt).trans hc) f1 f2 z1 z2) dMul_sz
  have B1 := Lib.hid b1
  clear hs ht hw b1 hc hlt
  generalize bin dMul (bl S) (bl T) = X at *
  go_enter Tryz.func50, Tryz.ntmps50
  go_wp2_with (first
    | (go_at_call 42; ((with_reducible refine TW.mono ?_); rintro e w2 ⟨rfl, hb⟩; have B2 := Lib.hid (B1.out.trans (hb.mono B1.out.size)); clear hb))
    | (go_at_call 43; ((with_reducible refine SU.mono ?_); rintro e w1 ⟨rfl, rfl⟩)))
  go_ret
  exact ⟨rfl, B2.out⟩

/-- What Floor gives. -/
def qfl (l : List UInt8) : List UInt8 := match num? l with
  | some a => put (flr a)
  | none => []
/-- What Compare gives. -/
def qcm (l m : List UInt8) : Int × Bool := match num? l, num? m with
  | some a, some b => (sign (a - b), true)
  | _, _ => (0, false)
set_option maxRecDepth 100000 in
set_option maxHeartbeats 1600000 in
theorem qValid_any (S : ByteArray) (hs : S.size ≤ 9223372036854775807) (w : World) (hw : Wf w) :
    Calls Tryz.prog 19 #[.string S] w fun e w' => e = .returned (.bool (num? (bl S)).isSome) ∧ Below w.heap.size w w' := by
  have R1 := read_any S hs w hw
  clear hs hw
  generalize num? (bl S) = o at *
  go_enter Tryz.func19, Tryz.ntmps19
  go_wp2_with (go_at_call 10; ((with_reducible refine R1.mono ?_); rintro e w1 ⟨y, A1, l1, c1, A2, l2, c2, rfl, hb, hF⟩; have bx := box_rs w1 (.bool y) (.slice A1 l1 c1) (.slice A2 l2 c2) 41; have B0 := Lib.hid hb; have B1 := Lib.hid (btrans hb bx.2.1); clear hb hF bx))
  go_ret
  first | exact ⟨rfl, B0.out⟩ | exact ⟨rfl, B1.out⟩

end Go.Proofs.YthjnmnepjeegiaaGreatDoor

/- read of the program: the number of a text in any of its forms. -/
namespace Go.Proofs.YthjnmnepjeegiaaGreatDoor
open Go.RowKit Go.Proofs.YthjnmnepjeegiaaGreatDoor.Dg Go.Proofs.YthjnmnepjeegiaaGreatDoor.Q Go.Proofs.YthjnmnepjeegiaaGreatDoor.Num Go.Proofs.YthjnmnepjeegiaaGreatDoor.Str

theorem ten_zeros : ∀ k, val (49 :: List.replicate k 48) = 10 ^ k := by
  intro k
  have : (49 : UInt8) :: List.replicate k 48 = [49] ++ pad k 0 := by rw [pad_zero]; rfl
  rw [this, val_append, pad_length, val_pad k 0 (Nat.pow_pos (by decide))]
  show 1 * 10 ^ k + 0 = _
  omega
theorem allD_zeros (k : Nat) : allD (49 :: List.replicate k 48) = true := by
  have : (49 : UInt8) :: List.replicate k 48 = [49] ++ pad k 0 := by rw [pad_zero]; rfl
  rw [this, allD_append, pad_allD]; rfl
theorem K0.b {w w1 : World} (h : K0 w w1) : Below w.heap.size w w1 := h.2.1
theorem K0.cells {w w1 : World} (h : K0 w w1) : w1.cell? ⟨w.heap.size, 0, none⟩ = some (.bool false) ∧ w1.cell? ⟨w.heap.size, 1, none⟩ = some (.slice none 0 0) ∧ w1.cell? ⟨w.heap.size, 2, none⟩ = some (.slice none 0 0) := h.1.cells
theorem K0.frozen {w w1 : World} (h : K0 w w1) : w1.frozen? ⟨w.heap.size, 0, none⟩ = false ∧ w1.frozen? ⟨w.heap.size, 1, none⟩ = false ∧ w1.frozen? ⟨w.heap.size, 2, none⟩ = false := h.1.frozen
theorem K0.give {w w1 : World} {q : Rat} {A A' : Option Addr} {c c' : Nat} (h : K0 w w1) (n1 : Nt .u32 w1 w1.heap.size A c (top q)) (n2 : Nt .u32 w1 w1.heap.size A' c' q.den) :
    ReadQ (some q) w (.returned (.tuple #[.agg #[.bool (ngt q), .slice A (nd (top q)) c, .slice A' (nd q.den) c'], .bool true])) (put3 w1 w.heap.size (.bool (ngt q)) (.slice A (nd (top q)) c) (.slice A' (nd q.den) c')) :=
  ⟨_, _, _, _, _, _, _, rfl, put3_below h.2.1 (Nat.le_refl _), fun q' h' => by injection h' with h'; subst h'; exact ⟨A, c, A', c', rfl, n1.put3 h.1 rfl rfl rfl, n2.put3 h.1 rfl rfl rfl⟩⟩
theorem K0.giveN {w w1 : World} (h : K0 w w1) : ReadQ none w (.returned (.tuple #[.agg #[.bool false, .slice none 0 0, .slice none 0 0], .bool false])) (put3 w1 w.heap.size (.bool false) (.slice none 0 0) (.slice none 0 0)) :=
  ⟨_, _, _, _, _, _, _, rfl, put3_below h.2.1 (Nat.le_refl _), fun q' h' => by cases h'⟩

set_option maxRecDepth 100000 in
set_option maxHeartbeats 3200000 in
theorem read_fr1 (S : ByteArray) (w : World) (hw : Wf w) (P Q R : ByteArray) (neg : Bool)
    (CP : ∀ w, Calls Tryz.prog 25 #[.string S, .string ⟨#[45]⟩] w fun e w' => e = .returned (.tuple #[.string R, .bool neg]) ∧ w = w')
    (CT : ∀ w, Calls Tryz.prog 28 #[.string R, .string ⟨#[47]⟩] w fun e w' => e = .returned (.tuple #[.string P, .string Q, .bool true]) ∧ ∃ n, w' = w.drewN n)
    (hP : P.size ≤ 1000) (hQ : Q.size ≤ 1000) (h1 : (decide (bl P ≠ []) && allD (bl P)) = false) :
    Calls Tryz.prog 47 #[.string S] w (ReadQ none w) := by
  have AP := fun w => all_any P (by omega) w
  have AQ := fun w => all_any Q (by omega) w
  have DQ := fun w' (hb : Below w.heap.size w w') => digits_any Q (by omega) w' (hw.up hb)
  rw [h1] at AP
  clear h1 hP hQ hw
  have k0 := Lib.hid (K0.start w)
  have k1 := Lib.hid (k0.out.alloc (.cells #[.int .u32 1] 77))
  have hW : (w.alloc (.cells #[.bool false, .slice none 0 0, .slice none 0 0] 41)).heap.size = w.heap.size + 1 := by simp
  have N1 := Lib.hid (Nt.one (w.alloc (.cells #[.bool false, .slice none 0 0, .slice none 0 0] 41)) 77)
  rw [hW] at N1
  clear hW
  go_enter Tryz.func47, Tryz.ntmps47
  go_wp2_with (first
    | (go_at_call 85; go_loud ((with_reducible refine (AP _).mono ?_); rintro e w' ⟨rfl, hb⟩; have ke := Lib.hid (kd.out.up hb); obtain ⟨r0, r1, r2⟩ := ke.out.cells; obtain ⟨f0, f1, f2⟩ := ke.out.frozen; clear hb))
    | (go_at_call 56; go_loud ((with_reducible refine (DQ _ kc.out.b).mono ?_); rintro e w' ⟨A1, n1, c1, o1, rfl, hF, hb, _, _⟩; have kd := Lib.hid (kc.out.up hb); clear hF hb))
    | (go_at_call 28; ((with_reducible refine (CT _).mono ?_); rintro e w' ⟨rfl, n, rfl⟩; have kc := Lib.hid (k1.out.drewN n)))
    | (go_at_call 25; go_loud (refine (CP _).mono ?_; rintro e w' ⟨rfl, rfl⟩)))
  exact bodyPost_ret (v := .tuple #[.agg #[.bool false, .slice none 0 0, .slice none 0 0], .bool false]) (by simp [results, Tryz.results47, go_sem, r0, r1, r2]) rfl ke.out.giveN

set_option maxRecDepth 100000 in
set_option maxHeartbeats 3200000 in
theorem read_fr2 (S : ByteArray) (w : World) (hw : Wf w) (P Q R : ByteArray) (neg : Bool)
    (CP : ∀ w, Calls Tryz.prog 25 #[.string S, .string ⟨#[45]⟩] w fun e w' => e = .returned (.tuple #[.string R, .bool neg]) ∧ w = w')
    (CT : ∀ w, Calls Tryz.prog 28 #[.string R, .string ⟨#[47]⟩] w fun e w' => e = .returned (.tuple #[.string P, .string Q, .bool true]) ∧ ∃ n, w' = w.drewN n)
    (hP : P.size ≤ 1000) (hQ : Q.size ≤ 1000) (h1 : (decide (bl P ≠ []) && allD (bl P)) = true) (h2 : (decide (bl Q ≠ []) && allD (bl Q)) = false) :
    Calls Tryz.prog 47 #[.string S] w (ReadQ none w) := by
  have AP := fun w => all_any P (by omega) w
  have AQ := fun w => all_any Q (by omega) w
  have DQ := fun w' (hb : Below w.heap.size w w') => digits_any Q (by omega) w' (hw.up hb)
  rw [h1] at AP
  rw [h2] at AQ
  clear h1 h2 hP hQ hw
  have k0 := Lib.hid (K0.start w)
  have k1 := Lib.hid (k0.out.alloc (.cells #[.int .u32 1] 77))
  have hW : (w.alloc (.cells #[.bool false, .slice none 0 0, .slice none 0 0] 41)).heap.size = w.heap.size + 1 := by simp
  have N1 := Lib.hid (Nt.one (w.alloc (.cells #[.bool false, .slice none 0 0, .slice none 0 0] 41)) 77)
  rw [hW] at N1
  clear hW
  go_enter Tryz.func47, Tryz.ntmps47
  go_wp2_with (first
    | (go_at_call 85; go_loud ((with_reducible refine (AQ _).mono ?_); rintro e w' ⟨rfl, hb⟩; have kf := Lib.hid (ke.out.up hb); obtain ⟨r0, r1, r2⟩ := kf.out.cells; obtain ⟨f0, f1, f2⟩ := kf.out.frozen; clear hb))
    | (go_at_call 85; go_loud ((with_reducible refine (AP _).mono ?_); rintro e w' ⟨rfl, hb⟩; have ke := Lib.hid (kd.out.up hb); clear hb))
    | (go_at_call 56; go_loud ((with_reducible refine (DQ _ kc.out.b).mono ?_); rintro e w' ⟨A1, n1, c1, o1, rfl, hF, hb, _, _⟩; have kd := Lib.hid (kc.out.up hb); clear hF hb))
    | (go_at_call 28; ((with_reducible refine (CT _).mono ?_); rintro e w' ⟨rfl, n, rfl⟩; have kc := Lib.hid (k1.out.drewN n)))
    | (go_at_call 25; go_loud (refine (CP _).mono ?_; rintro e w' ⟨rfl, rfl⟩)))
  exact bodyPost_ret (v := .tuple #[.agg #[.bool false, .slice none 0 0, .slice none 0 0], .bool false]) (by simp [results, Tryz.results47, go_sem, r0, r1, r2]) rfl kf.out.giveN

set_option maxRecDepth 100000 in
set_option maxHeartbeats 3200000 in
theorem read_fr3 (S : ByteArray) (w : World) (hw : Wf w) (P Q R : ByteArray) (neg : Bool)
    (CP : ∀ w, Calls Tryz.prog 25 #[.string S, .string ⟨#[45]⟩] w fun e w' => e = .returned (.tuple #[.string R, .bool neg]) ∧ w = w')
    (CT : ∀ w, Calls Tryz.prog 28 #[.string R, .string ⟨#[47]⟩] w fun e w' => e = .returned (.tuple #[.string P, .string Q, .bool true]) ∧ ∃ n, w' = w.drewN n)
    (hP : P.size ≤ 1000) (hQ : Q.size ≤ 1000) (h1 : (decide (bl P ≠ []) && allD (bl P)) = true) (h2 : (decide (bl Q ≠ []) && allD (bl Q)) = true) (h3 : val (bl Q) = 0) :
    Calls Tryz.prog 47 #[.string S] w (ReadQ none w) := by
  have AP := fun w => all_any P (by omega) w
  have AQ := fun w => all_any Q (by omega) w
  have DQ := fun w' (hb : Below w.heap.size w w') => digits_any Q (by omega) w' (hw.up hb)
  have HDQ := Lib.hid (show allD (bl Q) = true by simp at h2; exact h2.2)
  have HDP := Lib.hid (show allD (bl P) = true by simp at h1; exact h1.2)
  rw [h1] at AP
  rw [h2] at AQ
  have ZQ := fun A c w => zero_any A c (val (bl Q)) w
  rw [decide_eq_true h3] at ZQ
  clear h1 h2 h3 hP hQ hw
  have k0 := Lib.hid (K0.start w)
  have k1 := Lib.hid (k0.out.alloc (.cells #[.int .u32 1] 77))
  have hW : (w.alloc (.cells #[.bool false, .slice none 0 0, .slice none 0 0] 41)).heap.size = w.heap.size + 1 := by simp
  have N1 := Lib.hid (Nt.one (w.alloc (.cells #[.bool false, .slice none 0 0, .slice none 0 0] 41)) 77)
  rw [hW] at N1
  clear hW
  go_enter Tryz.func47, Tryz.ntmps47
  go_wp2_with (first
    | (go_at_call 41; ((with_reducible refine (ZQ _ _ _).mono ?_); rintro e w' ⟨rfl, rfl⟩; obtain ⟨r0, r1, r2⟩ := kf.out.cells; obtain ⟨f0, f1, f2⟩ := kf.out.frozen))
    | (go_at_call 85; ((with_reducible refine (AQ _).mono ?_); rintro e w' ⟨rfl, hb⟩; have kf := Lib.hid (ke.out.up hb); have NF := Lib.hid (NE.out.up hb); clear hb))
    | (go_at_call 85; ((with_reducible refine (AP _).mono ?_); rintro e w' ⟨rfl, hb⟩; have ke := Lib.hid (kd.out.up hb); have NE := Lib.hid (ND.out.up hb); clear hb))
    | (go_at_call 56; ((with_reducible refine (DQ _ kc.out.b).mono ?_); rintro e w' hdg; obtain ⟨A1, c1, rfl, hN, hb⟩ := hdg.num HDQ.out; have kd := Lib.hid (kc.out.up hb); have ND := Lib.hid hN; clear hdg hN hb))
    | (go_at_call 28; ((with_reducible refine (CT _).mono ?_); rintro e w' ⟨rfl, n, rfl⟩; have kc := Lib.hid (k1.out.drewN n)))
    | (go_at_call 25; go_loud (refine (CP _).mono ?_; rintro e w' ⟨rfl, rfl⟩)))
  exact bodyPost_ret (v := .tuple #[.agg #[.bool false, .slice none 0 0, .slice none 0 0], .bool false]) (by simp [results, Tryz.results47, go_sem, r0, r1, r2]) rfl kf.out.giveN

set_option maxRecDepth 100000 in
set_option maxHeartbeats 3200000 in
theorem read_fr4 (S : ByteArray) (w : World) (hw : Wf w) (P Q R : ByteArray) (neg : Bool)
    (CP : ∀ w, Calls Tryz.prog 25 #[.string S, .string ⟨#[45]⟩] w fun e w' => e = .returned (.tuple #[.string R, .bool neg]) ∧ w = w')
    (CT : ∀ w, Calls Tryz.prog 28 #[.string R, .string ⟨#[47]⟩] w fun e w' => e = .returned (.tuple #[.string P, .string Q, .bool true]) ∧ ∃ n, w' = w.drewN n)
    (hP : P.size ≤ 1000) (hQ : Q.size ≤ 1000) (h1 : (decide (bl P ≠ []) && allD (bl P)) = true) (h2 : (decide (bl Q ≠ []) && allD (bl Q)) = true) (h3 : val (bl Q) ≠ 0) :
    Calls Tryz.prog 47 #[.string S] w (ReadQ (some (mkRat (sg neg (val (bl P))) (val (bl Q)))) w) := by
  have AP := fun w => all_any P (by omega) w
  have AQ := fun w => all_any Q (by omega) w
  have DQ := fun w' (hb : Below w.heap.size w w') => digits_any Q (by omega) w' (hw.up hb)
  have HDQ := Lib.hid (show allD (bl Q) = true by simp at h2; exact h2.2)
  have HDP := Lib.hid (show allD (bl P) = true by simp at h1; exact h1.2)
  rw [h1] at AP
  rw [h2] at AQ
  have DP := fun w' (hb : Below w.heap.size w w') => digits_any P (by omega) w' (hw.up hb)
  have ZQ := fun A c w => zero_any A c (val (bl Q)) w
  rw [decide_eq_false h3] at ZQ
  have n1 := nd_val_le _ HDP.out
  have n2 := nd_val_le _ HDQ.out
  rw [bl_len] at n1 n2
  have MK := fun w' A A' c c' h h' => make_any neg A A' c c' (val (bl P)) (val (bl Q)) h3 w' h h' (by omega) (by omega)
  clear h1 h2 h3 hP hQ hw n1 n2
  generalize mkRat (sg neg (val (bl P))) (val (bl Q)) = q at *
  have k0 := Lib.hid (K0.start w)
  have k1 := Lib.hid (k0.out.alloc (.cells #[.int .u32 1] 77))
  have hW : (w.alloc (.cells #[.bool false, .slice none 0 0, .slice none 0 0] 41)).heap.size = w.heap.size + 1 := by simp
  have N1 := Lib.hid (Nt.one (w.alloc (.cells #[.bool false, .slice none 0 0, .slice none 0 0] 41)) 77)
  rw [hW] at N1
  clear hW
  go_enter Tryz.func47, Tryz.ntmps47
  go_wp2_with (first
    | (go_at_call 31; ((with_reducible refine (MK _ _ _ _ _ NP.out NG.out).mono ?_); rintro e w' ⟨v, rfl, ⟨A7, c7, A8, c8, rfl, n7, n8⟩, hb⟩; have km := Lib.hid (kg.out.up hb); have N7 := Lib.hid n7; have N8 := Lib.hid n8; obtain ⟨r0, r1, r2⟩ := km.out.cells; obtain ⟨f0, f1, f2⟩ := km.out.frozen; clear n7 n8 hb))
    | (go_at_call 56; ((with_reducible refine (DP _ kf.out.b).mono ?_); rintro e w' hdg; obtain ⟨A2, c2, rfl, hN, hb⟩ := hdg.num HDP.out; have kg := Lib.hid (kf.out.up hb); have NP := Lib.hid hN; have NG := Lib.hid (NF.out.up hb); clear hdg hN hb))
    | (go_at_call 41; ((with_reducible refine (ZQ _ _ _).mono ?_); rintro e w' ⟨rfl, rfl⟩))
    | (go_at_call 85; ((with_reducible refine (AQ _).mono ?_); rintro e w' ⟨rfl, hb⟩; have kf := Lib.hid (ke.out.up hb); have NF := Lib.hid (NE.out.up hb); clear hb))
    | (go_at_call 85; ((with_reducible refine (AP _).mono ?_); rintro e w' ⟨rfl, hb⟩; have ke := Lib.hid (kd.out.up hb); have NE := Lib.hid (ND.out.up hb); clear hb))
    | (go_at_call 56; ((with_reducible refine (DQ _ kc.out.b).mono ?_); rintro e w' hdg; obtain ⟨A1, c1, rfl, hN, hb⟩ := hdg.num HDQ.out; have kd := Lib.hid (kc.out.up hb); have ND := Lib.hid hN; clear hdg hN hb))
    | (go_at_call 28; ((with_reducible refine (CT _).mono ?_); rintro e w' ⟨rfl, n, rfl⟩; have kc := Lib.hid (k1.out.drewN n)))
    | (go_at_call 25; go_loud (refine (CP _).mono ?_; rintro e w' ⟨rfl, rfl⟩)))
  refine bodyPost_ret (v := .tuple #[.agg #[.bool (ngt q), .slice A7 (nd (top q)) c7, .slice A8 (nd q.den) c8], .bool true]) (by simp [results, Tryz.results47, go_sem, r0, r1, r2]) rfl ?_
  exact km.out.give N7.out N8.out

set_option maxRecDepth 100000 in
set_option maxHeartbeats 3200000 in
theorem read_de1 (S : ByteArray) (w : World) (_hw : Wf w) (P Q R : ByteArray) (neg : Bool)
    (CP : ∀ w, Calls Tryz.prog 25 #[.string S, .string ⟨#[45]⟩] w fun e w' => e = .returned (.tuple #[.string R, .bool neg]) ∧ w = w')
    (CT : ∀ w, Calls Tryz.prog 28 #[.string R, .string ⟨#[47]⟩] w fun e w' => e = .returned (.tuple #[.string P, .string Q, .bool false]) ∧ ∃ n, w' = w.drewN n)
    (F B : ByteArray) (f2 : Bool) (CD : ∀ w, Calls Tryz.prog 28 #[.string R, .string ⟨#[46]⟩] w fun e w' => e = .returned (.tuple #[.string F, .string B, .bool f2]) ∧ ∃ n, w' = w.drewN n)
    (hF : F.size ≤ 1000) (hB : B.size ≤ 1000) (h1 : (decide (bl F ≠ []) && allD (bl F)) = false) :
    Calls Tryz.prog 47 #[.string S] w (ReadQ none w) := by
  have AF := fun w => all_any F (by omega) w
  have AB := fun w => all_any B (by omega) w
  rw [h1] at AF
  clear h1 hF hB _hw AB
  have k0 := Lib.hid (K0.start w)
  have k1 := Lib.hid (k0.out.alloc (.cells #[.int .u32 1] 77))
  have hW : (w.alloc (.cells #[.bool false, .slice none 0 0, .slice none 0 0] 41)).heap.size = w.heap.size + 1 := by simp
  have N1 := Lib.hid (Nt.one (w.alloc (.cells #[.bool false, .slice none 0 0, .slice none 0 0] 41)) 77)
  rw [hW] at N1
  clear hW
  go_enter Tryz.func47, Tryz.ntmps47
  go_wp2_with (first
    | (go_at_call 85; go_loud ((with_reducible refine (AF _).mono ?_); rintro e w' ⟨rfl, hb⟩; have ke := Lib.hid (kd.out.up hb); obtain ⟨r0, r1, r2⟩ := ke.out.cells; obtain ⟨f0, f1, f2⟩ := ke.out.frozen; clear hb))
    | (go_at_call 28; go_loud ((with_reducible refine (CD _).mono ?_); rintro e w' ⟨rfl, n2, rfl⟩; have kd := Lib.hid (k1.out.drewN (n + n2))))
    | (go_at_call 28; ((with_reducible refine (CT _).mono ?_); rintro e w' ⟨rfl, n, rfl⟩; have kc := Lib.hid (k1.out.drewN n)))
    | (go_at_call 25; go_loud (refine (CP _).mono ?_; rintro e w' ⟨rfl, rfl⟩)))
  exact bodyPost_ret (v := .tuple #[.agg #[.bool false, .slice none 0 0, .slice none 0 0], .bool false]) (by simp [results, Tryz.results47, go_sem, r0, r1, r2]) rfl ke.out.giveN

set_option maxRecDepth 100000 in
set_option maxHeartbeats 3200000 in
theorem read_de2 (S : ByteArray) (w : World) (_hw : Wf w) (P Q R : ByteArray) (neg : Bool)
    (CP : ∀ w, Calls Tryz.prog 25 #[.string S, .string ⟨#[45]⟩] w fun e w' => e = .returned (.tuple #[.string R, .bool neg]) ∧ w = w')
    (CT : ∀ w, Calls Tryz.prog 28 #[.string R, .string ⟨#[47]⟩] w fun e w' => e = .returned (.tuple #[.string P, .string Q, .bool false]) ∧ ∃ n, w' = w.drewN n)
    (F B : ByteArray) (CD : ∀ w, Calls Tryz.prog 28 #[.string R, .string ⟨#[46]⟩] w fun e w' => e = .returned (.tuple #[.string F, .string B, .bool true]) ∧ ∃ n, w' = w.drewN n)
    (hF : F.size ≤ 1000) (hB : B.size ≤ 1000) (h1 : (decide (bl F ≠ []) && allD (bl F)) = true) (h2 : (decide (bl B ≠ []) && allD (bl B)) = false) :
    Calls Tryz.prog 47 #[.string S] w (ReadQ none w) := by
  have AF := fun w => all_any F (by omega) w
  have AB := fun w => all_any B (by omega) w
  rw [h1] at AF
  rw [h2] at AB
  clear h1 h2 hF hB _hw
  have k0 := Lib.hid (K0.start w)
  have k1 := Lib.hid (k0.out.alloc (.cells #[.int .u32 1] 77))
  have hW : (w.alloc (.cells #[.bool false, .slice none 0 0, .slice none 0 0] 41)).heap.size = w.heap.size + 1 := by simp
  have N1 := Lib.hid (Nt.one (w.alloc (.cells #[.bool false, .slice none 0 0, .slice none 0 0] 41)) 77)
  rw [hW] at N1
  clear hW
  go_enter Tryz.func47, Tryz.ntmps47
  go_wp2_with (first
    | (go_at_call 85; go_loud ((with_reducible refine (AB _).mono ?_); rintro e w' ⟨rfl, hb⟩; have kf := Lib.hid (ke.out.up hb); obtain ⟨r0, r1, r2⟩ := kf.out.cells; obtain ⟨f0, f1, f2⟩ := kf.out.frozen; clear hb))
    | (go_at_call 85; go_loud ((with_reducible refine (AF _).mono ?_); rintro e w' ⟨rfl, hb⟩; have ke := Lib.hid (kd.out.up hb); clear hb))
    | (go_at_call 28; go_loud ((with_reducible refine (CD _).mono ?_); rintro e w' ⟨rfl, n2, rfl⟩; have kd := Lib.hid (k1.out.drewN (n + n2))))
    | (go_at_call 28; ((with_reducible refine (CT _).mono ?_); rintro e w' ⟨rfl, n, rfl⟩; have kc := Lib.hid (k1.out.drewN n)))
    | (go_at_call 25; go_loud (refine (CP _).mono ?_; rintro e w' ⟨rfl, rfl⟩)))
  exact bodyPost_ret (v := .tuple #[.agg #[.bool false, .slice none 0 0, .slice none 0 0], .bool false]) (by simp [results, Tryz.results47, go_sem, r0, r1, r2]) rfl kf.out.giveN

set_option maxRecDepth 100000 in
set_option maxHeartbeats 3200000 in
theorem read_int (S : ByteArray) (w : World) (hw : Wf w) (P Q R : ByteArray) (neg : Bool)
    (CP : ∀ w, Calls Tryz.prog 25 #[.string S, .string ⟨#[45]⟩] w fun e w' => e = .returned (.tuple #[.string R, .bool neg]) ∧ w = w')
    (CT : ∀ w, Calls Tryz.prog 28 #[.string R, .string ⟨#[47]⟩] w fun e w' => e = .returned (.tuple #[.string P, .string Q, .bool false]) ∧ ∃ n, w' = w.drewN n)
    (F B : ByteArray) (CD : ∀ w, Calls Tryz.prog 28 #[.string R, .string ⟨#[46]⟩] w fun e w' => e = .returned (.tuple #[.string F, .string B, .bool false]) ∧ ∃ n, w' = w.drewN n)
    (hF : F.size ≤ 1000) (hB : B.size ≤ 1000) (hBe : B = ⟨#[]⟩) (h1 : (decide (bl F ≠ []) && allD (bl F)) = true) :
    Calls Tryz.prog 47 #[.string S] w (ReadQ (some (mkRat (sg neg (val (bl F))) 1)) w) := by
  have AF := fun w => all_any F (by omega) w
  have HDF := Lib.hid (show allD (bl (F ++ B)) = true by simp at h1; rw [bl_app, allD_append, h1.2, hBe]; rfl)
  rw [h1] at AF
  have hv : bl (F ++ B) = bl F := by rw [bl_app, hBe]; show bl F ++ [] = bl F; simp
  have hsz : (F ++ B).size ≤ 2000 := by rw [← bl_len, hv, bl_len]; omega
  have DF := fun w' (hb : Below w.heap.size w w') => digits_any (F ++ B) (by omega) w' (hw.up hb)
  have n1 := nd_val_le _ HDF.out
  rw [bl_len] at n1
  have MK := fun w' A A' c c' h h' => make_any neg A A' c c' (val (bl (F ++ B))) 1 (by decide) w' h h' (by omega) (by rw [nd_one]; omega)
  rw [nd_one] at MK
  have hFs := hF
  have hBs : B.size ≤ 1000 := hB
  rw [← hv]
  clear h1 hBe hF hB hw hv n1 hsz
  generalize mkRat (sg neg (val (bl (F ++ B)))) 1 = q at *
  have k0 := Lib.hid (K0.start w)
  have k1 := Lib.hid (k0.out.alloc (.cells #[.int .u32 1] 77))
  have hW : (w.alloc (.cells #[.bool false, .slice none 0 0, .slice none 0 0] 41)).heap.size = w.heap.size + 1 := by simp
  have N1 := Lib.hid (Nt.one (w.alloc (.cells #[.bool false, .slice none 0 0, .slice none 0 0] 41)) 77)
  rw [hW] at N1
  clear hW
  go_enter Tryz.func47, Tryz.ntmps47
  go_wp2_with (first
    | (go_at_call 31; ((with_reducible refine (MK _ _ _ _ _ NP.out M4.out).mono ?_); rintro e w' ⟨v, rfl, ⟨A7, c7, A8, c8, rfl, n7, n8⟩, hb⟩; have km := Lib.hid (kg.out.up hb); have N7 := Lib.hid n7; have N8 := Lib.hid n8; obtain ⟨r0, r1, r2⟩ := km.out.cells; obtain ⟨f0, f1, f2⟩ := km.out.frozen; clear n7 n8 hb))
    | (go_at_call 56; ((with_reducible refine (DF _ ke.out.b).mono ?_); rintro e w' hdg; obtain ⟨A2, c2, rfl, hN, hb⟩ := hdg.num HDF.out; have kg := Lib.hid (ke.out.up hb); have NP := Lib.hid hN; have M4 := Lib.hid (M3.out.up hb); clear hdg hN hb))
    | (go_at_call 85; ((with_reducible refine (AF _).mono ?_); rintro e w' ⟨rfl, hb⟩; have ke := Lib.hid (kd.out.up hb); have M3 := Lib.hid (M2.out.up hb); clear hb))
    | (go_at_call 28; go_loud ((with_reducible refine (CD _).mono ?_); rintro e w' ⟨rfl, n2, rfl⟩; have M2 := Lib.hid (N1.out.drewN (n + n2)); have kd := Lib.hid (k1.out.drewN (n + n2))))
    | (go_at_call 28; ((with_reducible refine (CT _).mono ?_); rintro e w' ⟨rfl, n, rfl⟩; have kc := Lib.hid (k1.out.drewN n)))
    | (go_at_call 25; go_loud (refine (CP _).mono ?_; rintro e w' ⟨rfl, rfl⟩)))
  refine bodyPost_ret (v := .tuple #[.agg #[.bool (ngt q), .slice A7 (nd (top q)) c7, .slice A8 (nd q.den) c8], .bool true]) (by simp [results, Tryz.results47, go_sem, r0, r1, r2]) rfl ?_
  exact km.out.give N7.out N8.out

set_option maxRecDepth 100000 in
set_option maxHeartbeats 3200000 in
theorem read_dec (S : ByteArray) (w : World) (hw : Wf w) (P Q R : ByteArray) (neg : Bool)
    (CP : ∀ w, Calls Tryz.prog 25 #[.string S, .string ⟨#[45]⟩] w fun e w' => e = .returned (.tuple #[.string R, .bool neg]) ∧ w = w')
    (CT : ∀ w, Calls Tryz.prog 28 #[.string R, .string ⟨#[47]⟩] w fun e w' => e = .returned (.tuple #[.string P, .string Q, .bool false]) ∧ ∃ n, w' = w.drewN n)
    (F B : ByteArray) (CD : ∀ w, Calls Tryz.prog 28 #[.string R, .string ⟨#[46]⟩] w fun e w' => e = .returned (.tuple #[.string F, .string B, .bool true]) ∧ ∃ n, w' = w.drewN n)
    (hF : F.size ≤ 1000) (hB : B.size ≤ 1000) (h1 : (decide (bl F ≠ []) && allD (bl F)) = true) (h2 : (decide (bl B ≠ []) && allD (bl B)) = true) :
    Calls Tryz.prog 47 #[.string S] w (ReadQ (some (mkRat (sg neg (val (bl F ++ bl B))) (10 ^ B.size))) w) := by
  have AF := fun w => all_any F (by omega) w
  have AB := fun w => all_any B (by omega) w
  have HDF := Lib.hid (show allD (bl (F ++ B)) = true by simp at h1 h2; rw [bl_app, allD_append, h1.2, h2.2]; rfl)
  rw [h1] at AF
  rw [h2] at AB
  have hsz : (F ++ B).size ≤ 2000 := by rw [← bl_len, bl_app, List.length_append, bl_len, bl_len]; omega
  have DF := fun w' (hb : Below w.heap.size w w') => digits_any (F ++ B) (by omega) w' (hw.up hb)
  have n1 := nd_val_le _ HDF.out
  rw [bl_len] at n1
  have RP := fun w => Tryz.strings_Repeat ⟨#[48]⟩ B.size w (by omega) (by show 1 * _ ≤ _; omega)
  obtain ⟨Z, hZ⟩ : ∃ Z : ByteArray, Z = ⟨(Lib.repeatL (⟨#[48]⟩ : ByteArray).data.toList B.size).toArray⟩ := ⟨_, rfl⟩
  rw [← hZ] at RP
  have hZb : bl Z = List.replicate B.size 48 := by rw [hZ, bl_mk]; exact repeat_zero _
  have hZs : Z.size ≤ 1000 := by rw [← bl_len, hZb]; simp; exact hB
  have h1Z : bl ((⟨#[49]⟩ : ByteArray) ++ Z) = 49 :: List.replicate B.size 48 := by rw [bl_app, hZb]; rfl
  have hs1 : ((⟨#[49]⟩ : ByteArray) ++ Z).size ≤ 1001 := by rw [← bl_len, h1Z]; simp; omega
  have HD1 := Lib.hid (show allD (bl ((⟨#[49]⟩ : ByteArray) ++ Z)) = true by rw [h1Z]; exact allD_zeros _)
  have D1 := fun w' (hb : Below w.heap.size w w') => digits_any ((⟨#[49]⟩ : ByteArray) ++ Z) (by omega) w' (hw.up hb)
  have n2 := nd_val_le _ HD1.out
  rw [bl_len] at n2
  have hv1 : val (bl ((⟨#[49]⟩ : ByteArray) ++ Z)) = 10 ^ B.size := by rw [h1Z]; exact ten_zeros _
  have hne : val (bl ((⟨#[49]⟩ : ByteArray) ++ Z)) ≠ 0 := by rw [hv1]; exact Nat.pos_iff_ne_zero.1 (Nat.pow_pos (by decide))
  have MK := fun w' A A' c c' h h' => make_any neg A A' c c' (val (bl (F ++ B))) (val (bl ((⟨#[49]⟩ : ByteArray) ++ Z))) hne w' h h' (by omega) (by omega)
  rw [← bl_app, ← hv1]
  clear h1 h2 hw n1 n2 hsz hZ hZb h1Z hs1 hv1 hne
  generalize mkRat (sg neg (val (bl (F ++ B)))) (val (bl ((⟨#[49]⟩ : ByteArray) ++ Z))) = q at *
  have k0 := Lib.hid (K0.start w)
  have k1 := Lib.hid (k0.out.alloc (.cells #[.int .u32 1] 77))
  have hW : (w.alloc (.cells #[.bool false, .slice none 0 0, .slice none 0 0] 41)).heap.size = w.heap.size + 1 := by simp
  have N1 := Lib.hid (Nt.one (w.alloc (.cells #[.bool false, .slice none 0 0, .slice none 0 0] 41)) 77)
  rw [hW] at N1
  clear hW
  go_enter Tryz.func47, Tryz.ntmps47
  go_wp2_with (first
    | (go_at_call 31; ((with_reducible refine (MK _ _ _ _ _ NP.out NE.out).mono ?_); rintro e w' ⟨v, rfl, ⟨A7, c7, A8, c8, rfl, n7, n8⟩, hb⟩; have km := Lib.hid (ki.out.up hb); have N7 := Lib.hid n7; have N8 := Lib.hid n8; obtain ⟨r0, r1, r2⟩ := km.out.cells; obtain ⟨f0, f1, f2⟩ := km.out.frozen; clear n7 n8 hb))
    | (go_at_call 56; ((with_reducible refine (DF _ kh.out.b).mono ?_); rintro e w' hdg; obtain ⟨A2, c2, rfl, hN, hb⟩ := hdg.num HDF.out; have ki := Lib.hid (kh.out.up hb); have NP := Lib.hid hN; have NE := Lib.hid (ND.out.up hb); clear hdg hN hb))
    | (go_at_call 56; ((with_reducible refine (D1 _ kg.out.b).mono ?_); rintro e w' hdg; obtain ⟨A1, c1, rfl, hN, hb⟩ := hdg.num HD1.out; have kh := Lib.hid (kg.out.up hb); have ND := Lib.hid hN; clear hdg hN hb))
    | (go_at_call 86; ((with_reducible refine (RP _).mono ?_); rintro e w' ⟨rfl, hb⟩; have kg := Lib.hid (kf.out.up hb); clear hb))
    | (go_at_call 85; ((with_reducible refine (AB _).mono ?_); rintro e w' ⟨rfl, hb⟩; have kf := Lib.hid (ke.out.up hb); clear hb))
    | (go_at_call 85; ((with_reducible refine (AF _).mono ?_); rintro e w' ⟨rfl, hb⟩; have ke := Lib.hid (kd.out.up hb); clear hb))
    | (go_at_call 28; go_loud ((with_reducible refine (CD _).mono ?_); rintro e w' ⟨rfl, n2, rfl⟩; have kd := Lib.hid (k1.out.drewN (n + n2))))
    | (go_at_call 28; ((with_reducible refine (CT _).mono ?_); rintro e w' ⟨rfl, n, rfl⟩; have kc := Lib.hid (k1.out.drewN n)))
    | (go_at_call 25; go_loud (refine (CP _).mono ?_; rintro e w' ⟨rfl, rfl⟩)))
  refine bodyPost_ret (v := .tuple #[.agg #[.bool (ngt q), .slice A7 (nd (top q)) c7, .slice A8 (nd q.den) c8], .bool true]) (by simp [results, Tryz.results47, go_sem, r0, r1, r2]) rfl ?_
  exact km.out.give N7.out N8.out

end Go.Proofs.YthjnmnepjeegiaaGreatDoor

/- read and Parse of the program. -/
namespace Go.Proofs.YthjnmnepjeegiaaGreatDoor
open Go.RowKit Go.Proofs.YthjnmnepjeegiaaGreatDoor.Dg Go.Proofs.YthjnmnepjeegiaaGreatDoor.Q Go.Proofs.YthjnmnepjeegiaaGreatDoor.Num Go.Proofs.YthjnmnepjeegiaaGreatDoor.Str

theorem part_sizes {R P Q : ByteArray} {c : UInt8} {f : Bool} (h1 : f = true → bl R = bl P ++ c :: bl Q ∧ c ∉ bl P) (h2 : f = false → P = R ∧ Q = ⟨#[]⟩ ∧ c ∉ bl R) : P.size ≤ R.size ∧ Q.size ≤ R.size := by
  cases f
  · obtain ⟨rfl, rfl, _⟩ := h2 rfl
    exact ⟨Nat.le_refl _, Nat.zero_le _⟩
  · have := congrArg List.length (h1 rfl).1
    rw [List.length_append, List.length_cons, bl_len, bl_len, bl_len] at this
    omega
theorem allb {l : List UInt8} : (decide (l ≠ []) && allD l) = true ↔ l ≠ [] ∧ allD l = true := by simp

theorem qread_any (S : ByteArray) (hs : S.size ≤ 1000) (w : World) (hw : Wf w) : Calls Tryz.prog 47 #[.string S] w (ReadQ (frm (bl S)) w) := by
  have hR : (⟨(body (bl S)).toArray⟩ : ByteArray).size ≤ 1000 := by
    rw [← bl_len]
    have := body_len (bl S)
    rw [bl_len] at this
    exact Nat.le_trans this hs
  obtain ⟨P, Q, f, CT, h1, h2⟩ := cut_fixed ⟨(body (bl S)).toArray⟩ 47 (by omega)
  obtain ⟨s1, s2⟩ := part_sizes h1 h2
  have CP := cutneg_fixed S
  cases f
  · obtain ⟨F, B, f2, CD, g1, g2⟩ := cut_fixed ⟨(body (bl S)).toArray⟩ 46 (by omega)
    obtain ⟨s3, s4⟩ := part_sizes g1 g2
    obtain ⟨_, _, h47⟩ := h2 rfl
    cases b1 : (decide (bl F ≠ []) && allD (bl F))
    · have hno : frm (bl S) = none := by
        have hb1 : ¬ (bl F ≠ [] ∧ allD (bl F) = true) := fun h => by rw [allb.2 h] at b1; cases b1
        cases f2
        · obtain ⟨e1, _, h46⟩ := g2 rfl
          rw [frm_int h47 h46, if_neg]
          intro h
          refine hb1 ?_
          rw [e1]; exact h
        · rw [frm_cut (s := 46) (g1 rfl).1 not_digit_46, if_neg]
          exact fun h => hb1 ⟨h.1, h.2.1⟩
      rw [hno]
      exact read_de1 S w hw P Q _ _ CP CT F B f2 CD (by omega) (by omega) b1
    · cases f2
      · obtain ⟨e1, e2, h46⟩ := g2 rfl
        have hF : bl F = body (bl S) := by rw [e1]; rfl
        have hb := allb.1 b1
        rw [hF] at hb
        rw [frm_int h47 h46, if_pos hb, ← hF]
        exact read_int S w hw P Q _ _ CP CT F B CD (by omega) (by omega) e2 b1
      · have e := (g1 rfl).1
        cases b2 : (decide (bl B ≠ []) && allD (bl B))
        · have hno : frm (bl S) = none := by
            rw [frm_cut (s := 46) e not_digit_46, if_neg]
            exact fun h => by rw [allb.2 h.2.2] at b2; cases b2
          rw [hno]
          exact read_de2 S w hw P Q _ _ CP CT F B CD (by omega) (by omega) b1 b2
        · have h3 := allb.1 b1
          have h4 := allb.1 b2
          rw [frm_cut (s := 46) e not_digit_46, if_pos ⟨h3.1, h3.2, h4.1, h4.2⟩, if_pos rfl, bl_len]
          exact read_dec S w hw P Q _ _ CP CT F B CD (by omega) (by omega) b1 b2
  · have e := (h1 rfl).1
    cases b1 : (decide (bl P ≠ []) && allD (bl P))
    · have hno : frm (bl S) = none := by
        rw [frm_cut (s := 47) e not_digit_47, if_neg]
        exact fun h => by rw [allb.2 ⟨h.1, h.2.1⟩] at b1; cases b1
      rw [hno]
      exact read_fr1 S w hw P Q _ _ CP CT (by omega) (by omega) b1
    · cases b2 : (decide (bl Q ≠ []) && allD (bl Q))
      · have hno : frm (bl S) = none := by
          rw [frm_cut (s := 47) e not_digit_47, if_neg]
          exact fun h => by rw [allb.2 h.2.2] at b2; cases b2
        rw [hno]
        exact read_fr2 S w hw P Q _ _ CP CT (by omega) (by omega) b1 b2
      · have h3 := allb.1 b1
        have h4 := allb.1 b2
        rw [frm_cut (s := 47) e not_digit_47, if_pos ⟨h3.1, h3.2, h4.1, h4.2⟩, if_neg (by decide), if_pos rfl]
        by_cases hv : val (bl Q) = 0
        · rw [if_pos hv]
          exact read_fr3 S w hw P Q _ _ CP CT (by omega) (by omega) b1 b2 hv
        · rw [if_neg hv]
          exact read_fr4 S w hw P Q _ _ CP CT (by omega) (by omega) b1 b2 hv

/-- What Parse gives: the text, and the error. -/
def qparse (l : List UInt8) : List UInt8 × Int := if 1000 < l.length then ([], 4) else match frm l with
  | none => ([], 1)
  | some q => if short q = true then (txt q, 0) else ([], 4)
/-- Numbers of short texts are not long. -/
theorem frm_sz {l : List UInt8} {q : Rat} (h : frm l = some q) (hl : l.length ≤ 1000) : sz q ≤ 5000 := by
  have hb : (body l).length ≤ 1000 := Nat.le_trans (body_len l) hl
  obtain ⟨a, b, e, ha, hbb⟩ := digits_end (body l)
  obtain ⟨t1, t2⟩ := take_digits ha hbb
  unfold frm at h
  rw [e, t1, t2] at h
  have hlen : a.length + b.length ≤ 1000 := by rw [← List.length_append, ← e]; exact hb
  have n1 := nd_val_le a ha
  split at h
  · cases h
  · cases b with
    | nil =>
      injection h with h
      subst h
      have := sz_make (b := isNeg l) (n := val a) (d := 1) (by decide)
      rw [nd_one] at this
      omega
    | cons c m =>
      rw [List.length_cons] at hlen
      have h2 : (if m = [] ∨ allD m = false then none else if c = 46 then some (mkRat (sg (isNeg l) (val (a ++ m))) (10 ^ m.length)) else if c = 47 then (if val m = 0 then none else some (mkRat (sg (isNeg l) (val a)) (val m))) else none) = some q := h
      split at h2
      · cases h2
      · rename_i hm
        have hma : allD m = true := by
          cases hx : allD m
          · exact absurd (.inr hx) hm
          · rfl
        have n2 := nd_val_le m hma
        split at h2
        · injection h2 with h2
          subst h2
          have n3 := nd_val_le (a ++ m) (by rw [allD_append, ha, hma]; rfl)
          rw [List.length_append] at n3
          have n4 : nd (10 ^ m.length) ≤ m.length + 1 := nd_le (by rw [pw_ten]; exact Nat.pow_lt_pow_right (by decide) (by omega))
          have := sz_make (b := isNeg l) (n := val (a ++ m)) (d := 10 ^ m.length) (Nat.pos_iff_ne_zero.1 (Nat.pow_pos (by decide)))
          omega
        · split at h2
          · split at h2
            · cases h2
            · rename_i hv
              injection h2 with h2
              subst h2
              have := sz_make (b := isNeg l) (n := val a) (d := val m) hv
              omega
          · cases h2

set_option maxRecDepth 100000 in
set_option maxHeartbeats 3200000 in
theorem qParse_any (S : ByteArray) (hs : S.size ≤ 9223372036854775807) (w : World) (hw : Wf w) :
    Calls Tryz.prog 22 #[.string S] w fun e w' => e = .returned (.tuple #[.string ⟨(qparse (bl S)).1.toArray⟩, .int .i64 (qparse (bl S)).2]) ∧ Below w.heap.size w w' := by
  have sb : (S.size : Int) ≤ 9223372036854775807 := by omega
  obtain ⟨X, hX⟩ : ∃ X, qparse (bl S) = X := ⟨_, rfl⟩
  rw [hX]
  unfold qparse at hX
  rw [bl_len] at hX
  by_cases hl : 1000 < S.size
  · rw [if_pos hl] at hX
    have HX := Lib.hid hX.symm
    have i1 : (1000 : Int) < (S.size : Int) := by omega
    clear hl hX
    go_enter Tryz.func22, Tryz.ntmps22
    go_wp2
    go_ret2
    exact ⟨by rw [HX.out]; rfl, Below.refl _ _⟩
  · rw [if_neg hl] at hX
    have R1 := qread_any S (by omega) w hw
    have i1 : ¬ (1000 : Int) < (S.size : Int) := by omega
    cases h1 : frm (bl S) with
    | none =>
      rw [h1] at hX R1
      have HX := Lib.hid hX.symm
      clear hl hX h1
      go_enter Tryz.func22, Tryz.ntmps22
      go_wp2_with (go_at_call 47; ((with_reducible refine R1.mono ?_); rintro e w1 ⟨y, A1, l1, c1, A2, l2, c2, rfl, hb, hF⟩; have B1 := Lib.hid (btrans hb (box_rs w1 (.bool y) (.slice A1 l1 c1) (.slice A2 l2 c2) 41).2.1); clear hb hF))
      go_ret2
      exact ⟨by rw [HX.out]; rfl, B1.out⟩
    | some q =>
      have hz := frm_sz h1 (by rw [bl_len]; omega)
      rw [h1] at hX R1
      have TX := fun w' v (hb : Below w.heap.size w w') (h : Fr w' v q) => ftext_any v q w' (hw.up hb) h (by omega)
      have HX := Lib.hid (show X = (put q, if short q = true then 0 else 4) by
        rw [← hX]
        show (if short q = true then (txt q, 0) else ([], 4)) = _
        unfold put
        split <;> rfl)
      clear hl hX h1 hz
      have HPQ := Lib.hid (show short q = false → put q = [] from fun h => by unfold put; rw [h]; rfl)
      generalize short q = sh at *
      generalize put q = pq at *
      cases sh
      all_goals
        go_enter Tryz.func22, Tryz.ntmps22
        go_wp2_with (first
          | (go_at_call 34; ((with_reducible refine (TX _ _ B1.out F1.out).mono ?_); rintro e w2 ⟨rfl, hb⟩; have B2 := Lib.hid (btrans B1.out hb); clear hb))
          | (go_at_call 47; ((with_reducible refine R1.mono ?_); rintro e w1 ⟨y, A1, l1, c1, A2, l2, c2, rfl, hb, hF⟩; have bx := box_rs w1 (.bool y) (.slice A1 l1 c1) (.slice A2 l2 c2) 41; have F1 := Lib.hid ((hF _ rfl).up bx.2.1); have B1 := Lib.hid (btrans hb bx.2.1); clear hb hF bx)))
        go_ret2
        refine ⟨?_, B2.out⟩
        rw [HX.out]
        first | rfl | (rw [HPQ.out (by first | rfl | trivial)]; rfl)

end Go.Proofs.YthjnmnepjeegiaaGreatDoor
