/- Equality of units, as the model reckons it. Units of the program: Times, Over, Same. Units of the program: Power. Units of the program: Convert. Texts of units: number, word, prefix of the program. Symbols of units, plainly: the table, what is found there, the number a text of a unit begins with. The text of a unit, plainly: exponents, factors, the unit. Texts of units: exponent of the program. -/
import Derived.Test.YtinoipjblkidfaaGreatDoorC7
import Derived.ChangeKeysEq
/- Equality of units, as the model reckons it. -/
namespace Go.Proofs.YtinoipjblkidfaaGreatDoor
open Go.RowKit Go.Proofs.YtinoipjblkidfaaGreatDoor.Dg Go.Proofs.YtinoipjblkidfaaGreatDoor.Q Go.Proofs.YtinoipjblkidfaaGreatDoor.Num

theorem eq7_items (d : Nat) (xs ys : Array Value) (X Y : Nat → Int) (w : World) (is : List Nat) (hx : ∀ i ∈ is, xs[i]? = some (.int .i64 (X i))) (hy : ∀ i ∈ is, ys[i]? = some (.int .i64 (Y i))) :
    (Op.eqItems (d + 1) 3 1 xs ys is).run Tryz.prog w = .ok (is.all fun i => X i == Y i) w := by
  induction is with
  | nil => simp [Op.eqItems]
  | cons i is ih =>
    have h := ih (fun j hj => hx j (List.mem_cons_of_mem _ hj)) (fun j hj => hy j (List.mem_cons_of_mem _ hj))
    have p1 := run_part_plain (P := Tryz.prog) w (e := 3) (by kernel_rfl) (hx i (List.mem_cons_self ..))
    have p2 := run_part_plain (P := Tryz.prog) w (e := 3) (by kernel_rfl) (hy i (List.mem_cons_self ..))
    have p3 := run_equalIn_int (P := Tryz.prog) w d 3 .i64 .i64 (X i) (Y i) (by kernel_rfl)
    simp only [Op.eqItems, Sem.run_bind, Nat.mul_one, p1, p2, p3, Result.andThen_ok, List.all_cons]
    cases X i == Y i
    · simp
    · simpa using h
def P7.at (p : P7) (i : Nat) : Int := p.l.getD i 0
theorem P7.eq_all (p q : P7) : ((List.range 7).all fun i => p.at i == q.at i) = decide (p = q) := by
  rw [Bool.eq_iff_iff, decide_eq_true_iff]
  constructor
  · intro h
    have h2 : ∀ i, i < 7 → p.at i = q.at i := fun i hi => by simpa using List.all_eq_true.1 h i (List.mem_range.2 hi)
    cases p; cases q
    simp only [P7.mk.injEq]
    exact ⟨h2 0 (by decide), h2 1 (by decide), h2 2 (by decide), h2 3 (by decide), h2 4 (by decide), h2 5 (by decide), h2 6 (by decide)⟩
  · rintro rfl
    simp
theorem P7.C_at (p : P7) (i : Nat) (hi : i < 7) : p.C[i]? = some (.int .i64 (p.at i)) := by
  rcases (show i = 0 ∨ i = 1 ∨ i = 2 ∨ i = 3 ∨ i = 4 ∨ i = 5 ∨ i = 6 by omega) with rfl | rfl | rfl | rfl | rfl | rfl | rfl <;> rfl
theorem eq7 (d : Nat) (p q : P7) (w : World) : (Op.equalIn (d + 2) 22 (.agg p.C) (.agg q.C)).run Tryz.prog w = .ok (decide (p = q)) w := by
  obtain ⟨i, hi⟩ := Option.isSome_iff_exists.1 (show (Tryz.prog.info? 3).isSome = true by kernel_rfl)
  rw [run_equalIn_array (P := Tryz.prog) w (d + 1) (n := 7) (e := 3) (hu := by kernel_rfl) (hi := hi), show Tryz.prog.cellsOf 3 = 1 by kernel_rfl, eq7_items d _ _ p.at q.at w _ (fun i hi => p.C_at i (List.mem_range.1 hi)) (fun i hi => q.C_at i (List.mem_range.1 hi)), P7.eq_all]
theorem part_str (xs : Array Value) (i : Nat) (S : ByteArray) (h : xs[i]? = some (.string S)) (w : World) : (part 9 xs i).run Tryz.prog w = .ok (.string S) w := run_part_plain (P := Tryz.prog) w (e := 9) (by kernel_rfl) h
theorem part_arr (F O : ByteArray) (p : P7) (w : World) : (part 22 (unC F O p) 2).run Tryz.prog w = .ok (.agg p.C) w := by
  have h2 : Tryz.prog.underlying 22 = some (.array 7 3) := by kernel_rfl
  simp [part, isAgg, run_underlying h2]
  rfl
theorem toList_eq (S T : ByteArray) : (S.toList == T.toList) = decide (bl S = bl T) := by rw [← eqS]; unfold bl; rw [ByteArray.toList_eq T]
theorem eqU (F O F' O' : ByteArray) (p q : P7) (w : World) : (Op.equal 24 (.agg (unC F O p)) (.agg (unC F' O' q))).run Tryz.prog w = .ok (decide (bl F = bl F' ∧ bl O = bl O' ∧ p = q)) w := by
  have hs : ∀ S T : ByteArray, (S.toList == T.toList) = decide (bl S = bl T) := fun S T => by rw [← eqS]; unfold bl; rw [ByteArray.toList_eq T]
  have hf : (Tryz.prog.fieldsOf 24).toList.map (fun f => (f.name == "_", f.type, f.offset)) = [(false, 9, 0), (false, 9, 1), (false, 22, 2)] := by kernel_rfl
  have q1 := run_equalIn_string (P := Tryz.prog) w 9998 9 F F' (by kernel_rfl)
  have q2 := run_equalIn_string (P := Tryz.prog) w 9998 9 O O' (by kernel_rfl)
  have q3 := eq7 9997 p q w
  unfold Op.equal Op.maxDepth
  rw [run_equalIn_struct (P := Tryz.prog) w 9999 _ _ _ (by kernel_rfl) (by kernel_rfl)]
  generalize (Tryz.prog.fieldsOf 24).toList = fs at hf
  rcases fs with _ | ⟨f1, _ | ⟨f2, _ | ⟨f3, _ | ⟨f4, r⟩⟩⟩⟩
  rotate_left 3
  · simp only [List.map_cons, List.map_nil, List.cons.injEq, Prod.mk.injEq, and_true, beq_eq_false_iff_ne, ne_eq] at hf
    obtain ⟨⟨a1, a2, a3⟩, ⟨b1, b2, b3⟩, c1, c2, c3⟩ := hf
    rw [hs] at q1 q2
    have q1 : (Op.equalIn 9999 9 (.string F) (.string F')).run Tryz.prog w = _ := q1
    have q2 : (Op.equalIn 9999 9 (.string O) (.string O')).run Tryz.prog w = _ := q2
    have q3 : (Op.equalIn 9999 22 (.agg p.C) (.agg q.C)).run Tryz.prog w = _ := q3
    have p1 := part_str (unC F O p) 0 F rfl
    have p2 := part_str (unC F' O' q) 0 F' rfl
    have p3 := part_str (unC F O p) 1 O rfl
    have p4 := part_str (unC F' O' q) 1 O' rfl
    have p5 := part_arr F O p
    have p6 := part_arr F' O' q
    rw [show decide (bl F = bl F' ∧ bl O = bl O' ∧ p = q) = (decide (bl F = bl F') && (decide (bl O = bl O') && decide (p = q))) by simp]
    generalize decide (bl F = bl F') = v1 at *
    generalize decide (bl O = bl O') = v2 at *
    generalize decide (p = q) = v3 at *
    simp only [Op.eqFields, a1, b1, c1, ne_eq, not_false_eq_true, if_true, Sem.run_bind, a2, b2, c2, a3, b3, c3, p1, p2, q1, Result.andThen_ok]
    cases v1
    · simp
    · simp only [Bool.not_true, Bool.false_eq_true, if_false, Sem.run_bind, p3, p4, q2, Result.andThen_ok]
      cases v2
      · simp
      · simp only [Bool.not_true, Bool.false_eq_true, if_false, Sem.run_bind, p5, p6, q3, Result.andThen_ok]
        cases v3 <;> simp
  all_goals simp at hf
end Go.Proofs.YtinoipjblkidfaaGreatDoor

/- Units of the program: Times, Over, Same. -/
namespace Go.Proofs.YtinoipjblkidfaaGreatDoor
open Go.RowKit Go.Proofs.YtinoipjblkidfaaGreatDoor.Dg Go.Proofs.YtinoipjblkidfaaGreatDoor.Q Go.Proofs.YtinoipjblkidfaaGreatDoor.Num

set_option maxRecDepth 100000 in
set_option maxHeartbeats 6400000 in
theorem qTimes_any (F O F' O' : ByteArray) (p p' : P7) (hF : F.size ≤ 9223372036854775807) (hO : O.size ≤ 9223372036854775807) (hF' : F'.size ≤ 9223372036854775807) (hO' : O'.size ≤ 9223372036854775807) (w : World) (hw : Wf w) :
    Calls Tryz.prog 60 #[uv F O p, uv F' O' p'] w (GiveU w (unC2 (bl F) (bl O) p (bl F') (bl O') p' 1)) := by
  have k0 := Lib.hid (KC.start w F O F' O' p p')
  have C1 := fun w' (hb : Below w.heap.size w w') => combined_any F O F' O' p p' 1 (by decide) hF hO hF' hO' w' (hw.up hb)
  generalize unC2 (bl F) (bl O) p (bl F') (bl O') p' 1 = X at *
  unfold unC u0C at k0
  obtain ⟨p0, p1, p2, p3, p4, p5, p6⟩ := p
  obtain ⟨q0, q1, q2, q3, q4, q5, q6⟩ := p'
  obtain ⟨⟨XF, XO, ⟨x0, x1, x2, x3, x4, x5, x6⟩⟩, xe⟩ := X
  unfold GiveU Un.v at *
  unfold uv at *
  dsimp only at *
  clear hw hF hF' hO hO'
  go_enter Tryz.func60, Tryz.ntmps60
  go_wp2_with (go_at_call 116; go_loud ((with_reducible refine (C1 _ k0.out.b).mono ?_); rintro e w1 ⟨rfl, hb⟩; have k1 := Lib.hid (k0.out.up hb); obtain ⟨z0, z1, z2, z3, z4, z5, z6, z7, z8⟩ := u0_cells k1.out.2.2.1; obtain ⟨f0, f1, f2, f3, f4, f5, f6, f7, f8⟩ := k1.out.2.2.1.frozen9; clear hb))
  refine bodyPost_ret (v := .tuple #[.agg #[.string ⟨XF.toArray⟩, .string ⟨XO.toArray⟩, .int .i64 x0, .int .i64 x1, .int .i64 x2, .int .i64 x3, .int .i64 x4, .int .i64 x5, .int .i64 x6], .int .i64 xe]) (by simp [results, Tryz.results60, go_sem, z0, z1, z2, z3, z4, z5, z6, z7, z8]) rfl ⟨rfl, put9_below k1.out.b (by omega)⟩

set_option maxRecDepth 100000 in
set_option maxHeartbeats 6400000 in
theorem qOver_any (F O F' O' : ByteArray) (p p' : P7) (hF : F.size ≤ 9223372036854775807) (hO : O.size ≤ 9223372036854775807) (hF' : F'.size ≤ 9223372036854775807) (hO' : O'.size ≤ 9223372036854775807) (w : World) (hw : Wf w) :
    Calls Tryz.prog 61 #[uv F O p, uv F' O' p'] w (GiveU w (unC2 (bl F) (bl O) p (bl F') (bl O') p' (-1))) := by
  have k0 := Lib.hid (KC.start w F O F' O' p p')
  have C1 := fun w' (hb : Below w.heap.size w w') => combined_any F O F' O' p p' (-1) (by decide) hF hO hF' hO' w' (hw.up hb)
  generalize unC2 (bl F) (bl O) p (bl F') (bl O') p' (-1) = X at *
  unfold unC u0C at k0
  obtain ⟨p0, p1, p2, p3, p4, p5, p6⟩ := p
  obtain ⟨q0, q1, q2, q3, q4, q5, q6⟩ := p'
  obtain ⟨⟨XF, XO, ⟨x0, x1, x2, x3, x4, x5, x6⟩⟩, xe⟩ := X
  unfold GiveU Un.v at *
  unfold uv at *
  dsimp only at *
  clear hw hF hF' hO hO'
  go_enter Tryz.func61, Tryz.ntmps61
  go_wp2_with (go_at_call 116; go_loud ((with_reducible refine (C1 _ k0.out.b).mono ?_); rintro e w1 ⟨rfl, hb⟩; have k1 := Lib.hid (k0.out.up hb); obtain ⟨z0, z1, z2, z3, z4, z5, z6, z7, z8⟩ := u0_cells k1.out.2.2.1; obtain ⟨f0, f1, f2, f3, f4, f5, f6, f7, f8⟩ := k1.out.2.2.1.frozen9; clear hb))
  refine bodyPost_ret (v := .tuple #[.agg #[.string ⟨XF.toArray⟩, .string ⟨XO.toArray⟩, .int .i64 x0, .int .i64 x1, .int .i64 x2, .int .i64 x3, .int .i64 x4, .int .i64 x5, .int .i64 x6], .int .i64 xe]) (by simp [results, Tryz.results61, go_sem, z0, z1, z2, z3, z4, z5, z6, z7, z8]) rfl ⟨rfl, put9_below k1.out.b (by omega)⟩

/-- Equal units. -/
def sameU (F O : List UInt8) (p : P7) (F' O' : List UInt8) (p' : P7) : Bool := vU F O p && decide (F = F' ∧ O = O' ∧ p = p')

set_option maxRecDepth 100000 in
set_option maxHeartbeats 6400000 in
theorem qSame_any (F O F' O' : ByteArray) (p p' : P7) (hF : F.size ≤ 9223372036854775807) (hO : O.size ≤ 9223372036854775807) (w : World) (hw : Wf w) :
    Calls Tryz.prog 66 #[uv F O p, uv F' O' p'] w fun e w' => e = .returned (.bool (sameU (bl F) (bl O) p (bl F') (bl O') p')) ∧ Below w.heap.size w w' := by
  have k0 := Lib.hid (show Ub ((w.alloc (.cells (unC F O p) 24)).alloc (.cells (unC F' O' p') 24)) w.heap.size F O p ∧ Ub ((w.alloc (.cells (unC F O p) 24)).alloc (.cells (unC F' O' p') 24)) (w.heap.size + 1) F' O' p' ∧ Below w.heap.size w ((w.alloc (.cells (unC F O p) 24)).alloc (.cells (unC F' O' p') 24)) from by
    have s1 : (w.alloc (.cells (unC F O p) 24)).heap.size = w.heap.size + 1 := by simp
    refine ⟨(Bk.new w _ _).alloc, ?_, ((Below.refl _ w).alloc (Nat.le_refl _) _).alloc (by rw [s1]; omega) _⟩
    have := Bk.new (w.alloc (.cells (unC F O p) 24)) (unC F' O' p') 24
    rw [s1] at this
    exact this)
  have V1 := fun w' (hb : Below w.heap.size w w') => validU_any F O p hF hO w' (hw.up hb)
  obtain ⟨X, hX⟩ : ∃ X, sameU (bl F) (bl O) p (bl F') (bl O') p' = X := ⟨_, rfl⟩
  rw [hX]
  unfold sameU at hX
  have e1 := toList_eq F F'
  have e2 := toList_eq O O'
  have e3 : ∀ w, (Op.equalIn 9999 22 (.agg p.C) (.agg p'.C)).run Tryz.prog w = .ok (decide (p = p')) w := fun w => eq7 9997 p p' w
  unfold P7.C at e3
  rw [show decide (bl F = bl F' ∧ bl O = bl O' ∧ p = p') = (decide (bl F = bl F') && (decide (bl O = bl O') && decide (p = p'))) by simp] at hX
  generalize decide (bl F = bl F') = v1 at *
  generalize decide (bl O = bl O') = v2 at *
  generalize decide (p = p') = v3 at *
  have HX := Lib.hid hX
  clear hX hw hF hO
  generalize vU (bl F) (bl O) p = v at *
  unfold unC at k0
  obtain ⟨p0, p1, p2, p3, p4, p5, p6⟩ := p
  obtain ⟨q0, q1, q2, q3, q4, q5, q6⟩ := p'
  unfold uv at *
  dsimp only at *
  cases v
  · go_enter Tryz.func66, Tryz.ntmps66
    go_wp2_with (go_at_call 19; go_loud ((with_reducible refine (V1 _ k0.out.2.2).mono ?_); rintro e w1 ⟨rfl, hb⟩; have k1 := Lib.hid (btrans k0.out.2.2 hb); clear hb))
    go_ret
    exact ⟨by rw [← HX.out]; rfl, k1.out⟩
  · cases v1
    · go_enter Tryz.func66, Tryz.ntmps66
      go_wp2_with (go_at_call 19; go_loud ((with_reducible refine (V1 _ k0.out.2.2).mono ?_); rintro e w1 ⟨rfl, hb⟩; have k1 := Lib.hid (btrans k0.out.2.2 hb); obtain ⟨c0, c1, c2, c3, c4, c5, c6, c7, c8⟩ := (k0.out.1.up hb).cells; obtain ⟨d0, d1, d2, d3, d4, d5, d6, d7, d8⟩ := (k0.out.2.1.up hb).cells; clear hb))
      go_ret
      exact ⟨by rw [← HX.out]; rfl, k1.out⟩
    · cases v2
      · go_enter Tryz.func66, Tryz.ntmps66
        go_wp2_with (go_at_call 19; go_loud ((with_reducible refine (V1 _ k0.out.2.2).mono ?_); rintro e w1 ⟨rfl, hb⟩; have k1 := Lib.hid (btrans k0.out.2.2 hb); obtain ⟨c0, c1, c2, c3, c4, c5, c6, c7, c8⟩ := (k0.out.1.up hb).cells; obtain ⟨d0, d1, d2, d3, d4, d5, d6, d7, d8⟩ := (k0.out.2.1.up hb).cells; clear hb))
        go_ret
        exact ⟨by rw [← HX.out]; rfl, k1.out⟩
      · cases v3
        all_goals
          go_enter Tryz.func66, Tryz.ntmps66
          go_wp2_with (go_at_call 19; go_loud ((with_reducible refine (V1 _ k0.out.2.2).mono ?_); rintro e w1 ⟨rfl, hb⟩; have k1 := Lib.hid (btrans k0.out.2.2 hb); obtain ⟨c0, c1, c2, c3, c4, c5, c6, c7, c8⟩ := (k0.out.1.up hb).cells; obtain ⟨d0, d1, d2, d3, d4, d5, d6, d7, d8⟩ := (k0.out.2.1.up hb).cells; clear hb))
          go_ret
          exact ⟨by rw [← HX.out]; rfl, k1.out⟩

end Go.Proofs.YtinoipjblkidfaaGreatDoor

/- Units of the program: Power. -/
namespace Go.Proofs.YtinoipjblkidfaaGreatDoor
open Go.RowKit Go.Proofs.YtinoipjblkidfaaGreatDoor.Dg Go.Proofs.YtinoipjblkidfaaGreatDoor.Q Go.Proofs.YtinoipjblkidfaaGreatDoor.Num

def P7.times (p : P7) (n : Int) : P7 := ⟨p.a * n, p.b * n, p.c * n, p.d * n, p.e * n, p.f * n, p.g * n⟩
/-- What Power gives. -/
def unP (F O : List UInt8) (p : P7) (n : Int) : Un × Int :=
  if plainU F O p = true then (if -12 ≤ n ∧ n ≤ 12 then match num? F with
    | some f => unJ (f ^ n) (p.times n)
    | none => (Un.none, 10)
  else (Un.none, 2)) else (Un.none, 10)
/-- The world of Power: a box and a result. -/
def KE (w w' : World) (F O : ByteArray) (p : P7) : Prop := Ub w' w.heap.size F O p ∧ Bk w' (w.heap.size + 1) u0C 24 ∧ Below w.heap.size w w'
theorem KE.b {w w' : World} {F O : ByteArray} {p : P7} (h : KE w w' F O p) : Below w.heap.size w w' := h.2.2
theorem KE.up {w w1 w2 : World} {F O : ByteArray} {p : P7} (h : KE w w1 F O p) (hb : Below w1.heap.size w1 w2) : KE w w2 F O p := ⟨h.1.up hb, h.2.1.up hb, btrans h.2.2 hb⟩
theorem KE.start (w : World) (F O : ByteArray) (p : P7) : KE w ((w.alloc (.cells (unC F O p) 24)).alloc (.cells u0C 24)) F O p := by
  have s1 : (w.alloc (.cells (unC F O p) 24)).heap.size = w.heap.size + 1 := by simp
  refine ⟨(Bk.new w _ _).alloc, ?_, ((Below.refl _ w).alloc (Nat.le_refl _) _).alloc (by rw [s1]; omega) _⟩
  have := Bk.new (w.alloc (.cells (unC F O p) 24)) u0C 24
  rw [s1] at this
  exact this
/-- The world of Power behind its loop. -/
def KG (w w' : World) (F O : ByteArray) (r : P7) (g8 : Nat) (a0 a1 a2 : Value) : Prop := Ub w' w.heap.size F O r ∧ Bk w' (w.heap.size + 1) u0C 24 ∧ Bk w' g8 #[a0, a1, a2] 77 ∧ Below w.heap.size w w' ∧ w.heap.size + 1 < g8
theorem KG.b {w w' : World} {F O : ByteArray} {r : P7} {g8 : Nat} {a0 a1 a2 : Value} (h : KG w w' F O r g8 a0 a1 a2) : Below w.heap.size w w' := h.2.2.2.1
theorem KG.up {w w1 w2 : World} {F O : ByteArray} {r : P7} {g8 : Nat} {a0 a1 a2 : Value} (h : KG w w1 F O r g8 a0 a1 a2) (hb : Below w1.heap.size w1 w2) : KG w w2 F O r g8 a0 a1 a2 :=
  ⟨h.1.up hb, h.2.1.up hb, h.2.2.1.up hb, btrans h.b hb, h.2.2.2.2⟩
theorem KG.limbs {w w' : World} {F O : ByteArray} {r : P7} {g8 : Nat} {a0 a1 a2 : Value} (h : KG w w' F O r g8 a0 a1 a2) : w'.cell? ⟨w.heap.size, 2, none⟩ = some (.int .i64 r.a) ∧ w'.cell? ⟨w.heap.size, 3, none⟩ = some (.int .i64 r.b) ∧ w'.cell? ⟨w.heap.size, 4, none⟩ = some (.int .i64 r.c) ∧ w'.cell? ⟨w.heap.size, 5, none⟩ = some (.int .i64 r.d) ∧ w'.cell? ⟨w.heap.size, 6, none⟩ = some (.int .i64 r.e) ∧ w'.cell? ⟨w.heap.size, 7, none⟩ = some (.int .i64 r.f) ∧ w'.cell? ⟨w.heap.size, 8, none⟩ = some (.int .i64 r.g) ∧ w'.cell? ⟨g8, 0, none⟩ = some a0 ∧ w'.cell? ⟨g8, 1, none⟩ = some a1 ∧ w'.cell? ⟨g8, 2, none⟩ = some a2 := by
  obtain ⟨_, _, c2, c3, c4, c5, c6, c7, c8⟩ := h.1.cells
  exact ⟨c2, c3, c4, c5, c6, c7, c8, h.2.2.1.cell 0, h.2.2.1.cell 1, h.2.2.1.cell 2⟩
theorem KG.limbs_put {w w1 : World} {F O : ByteArray} {r : P7} {g8 : Nat} {a0 a1 a2 v0 v1 v2 v3 v4 v5 v6 v7 v8 : Value} (h : KG w w1 F O r g8 a0 a1 a2) : (((((((((w1.setCell ⟨w.heap.size + 1, 0, none⟩ v0).setCell ⟨w.heap.size + 1, 1, none⟩ v1).setCell ⟨w.heap.size + 1, 2, none⟩ v2).setCell ⟨w.heap.size + 1, 3, none⟩ v3).setCell ⟨w.heap.size + 1, 4, none⟩ v4).setCell ⟨w.heap.size + 1, 5, none⟩ v5).setCell ⟨w.heap.size + 1, 6, none⟩ v6).setCell ⟨w.heap.size + 1, 7, none⟩ v7).setCell ⟨w.heap.size + 1, 8, none⟩ v8).cell? ⟨w.heap.size, 2, none⟩ = some (.int .i64 r.a) ∧ (((((((((w1.setCell ⟨w.heap.size + 1, 0, none⟩ v0).setCell ⟨w.heap.size + 1, 1, none⟩ v1).setCell ⟨w.heap.size + 1, 2, none⟩ v2).setCell ⟨w.heap.size + 1, 3, none⟩ v3).setCell ⟨w.heap.size + 1, 4, none⟩ v4).setCell ⟨w.heap.size + 1, 5, none⟩ v5).setCell ⟨w.heap.size + 1, 6, none⟩ v6).setCell ⟨w.heap.size + 1, 7, none⟩ v7).setCell ⟨w.heap.size + 1, 8, none⟩ v8).cell? ⟨w.heap.size, 3, none⟩ = some (.int .i64 r.b) ∧ (((((((((w1.setCell ⟨w.heap.size + 1, 0, none⟩ v0).setCell ⟨w.heap.size + 1, 1, none⟩ v1).setCell ⟨w.heap.size + 1, 2, none⟩ v2).setCell ⟨w.heap.size + 1, 3, none⟩ v3).setCell ⟨w.heap.size + 1, 4, none⟩ v4).setCell ⟨w.heap.size + 1, 5, none⟩ v5).setCell ⟨w.heap.size + 1, 6, none⟩ v6).setCell ⟨w.heap.size + 1, 7, none⟩ v7).setCell ⟨w.heap.size + 1, 8, none⟩ v8).cell? ⟨w.heap.size, 4, none⟩ = some (.int .i64 r.c) ∧ (((((((((w1.setCell ⟨w.heap.size + 1, 0, none⟩ v0).setCell ⟨w.heap.size + 1, 1, none⟩ v1).setCell ⟨w.heap.size + 1, 2, none⟩ v2).setCell ⟨w.heap.size + 1, 3, none⟩ v3).setCell ⟨w.heap.size + 1, 4, none⟩ v4).setCell ⟨w.heap.size + 1, 5, none⟩ v5).setCell ⟨w.heap.size + 1, 6, none⟩ v6).setCell ⟨w.heap.size + 1, 7, none⟩ v7).setCell ⟨w.heap.size + 1, 8, none⟩ v8).cell? ⟨w.heap.size, 5, none⟩ = some (.int .i64 r.d) ∧ (((((((((w1.setCell ⟨w.heap.size + 1, 0, none⟩ v0).setCell ⟨w.heap.size + 1, 1, none⟩ v1).setCell ⟨w.heap.size + 1, 2, none⟩ v2).setCell ⟨w.heap.size + 1, 3, none⟩ v3).setCell ⟨w.heap.size + 1, 4, none⟩ v4).setCell ⟨w.heap.size + 1, 5, none⟩ v5).setCell ⟨w.heap.size + 1, 6, none⟩ v6).setCell ⟨w.heap.size + 1, 7, none⟩ v7).setCell ⟨w.heap.size + 1, 8, none⟩ v8).cell? ⟨w.heap.size, 6, none⟩ = some (.int .i64 r.e) ∧ (((((((((w1.setCell ⟨w.heap.size + 1, 0, none⟩ v0).setCell ⟨w.heap.size + 1, 1, none⟩ v1).setCell ⟨w.heap.size + 1, 2, none⟩ v2).setCell ⟨w.heap.size + 1, 3, none⟩ v3).setCell ⟨w.heap.size + 1, 4, none⟩ v4).setCell ⟨w.heap.size + 1, 5, none⟩ v5).setCell ⟨w.heap.size + 1, 6, none⟩ v6).setCell ⟨w.heap.size + 1, 7, none⟩ v7).setCell ⟨w.heap.size + 1, 8, none⟩ v8).cell? ⟨w.heap.size, 7, none⟩ = some (.int .i64 r.f) ∧ (((((((((w1.setCell ⟨w.heap.size + 1, 0, none⟩ v0).setCell ⟨w.heap.size + 1, 1, none⟩ v1).setCell ⟨w.heap.size + 1, 2, none⟩ v2).setCell ⟨w.heap.size + 1, 3, none⟩ v3).setCell ⟨w.heap.size + 1, 4, none⟩ v4).setCell ⟨w.heap.size + 1, 5, none⟩ v5).setCell ⟨w.heap.size + 1, 6, none⟩ v6).setCell ⟨w.heap.size + 1, 7, none⟩ v7).setCell ⟨w.heap.size + 1, 8, none⟩ v8).cell? ⟨w.heap.size, 8, none⟩ = some (.int .i64 r.g) ∧ (((((((((w1.setCell ⟨w.heap.size + 1, 0, none⟩ v0).setCell ⟨w.heap.size + 1, 1, none⟩ v1).setCell ⟨w.heap.size + 1, 2, none⟩ v2).setCell ⟨w.heap.size + 1, 3, none⟩ v3).setCell ⟨w.heap.size + 1, 4, none⟩ v4).setCell ⟨w.heap.size + 1, 5, none⟩ v5).setCell ⟨w.heap.size + 1, 6, none⟩ v6).setCell ⟨w.heap.size + 1, 7, none⟩ v7).setCell ⟨w.heap.size + 1, 8, none⟩ v8).cell? ⟨g8, 0, none⟩ = some a0 ∧ (((((((((w1.setCell ⟨w.heap.size + 1, 0, none⟩ v0).setCell ⟨w.heap.size + 1, 1, none⟩ v1).setCell ⟨w.heap.size + 1, 2, none⟩ v2).setCell ⟨w.heap.size + 1, 3, none⟩ v3).setCell ⟨w.heap.size + 1, 4, none⟩ v4).setCell ⟨w.heap.size + 1, 5, none⟩ v5).setCell ⟨w.heap.size + 1, 6, none⟩ v6).setCell ⟨w.heap.size + 1, 7, none⟩ v7).setCell ⟨w.heap.size + 1, 8, none⟩ v8).cell? ⟨g8, 1, none⟩ = some a1 ∧ (((((((((w1.setCell ⟨w.heap.size + 1, 0, none⟩ v0).setCell ⟨w.heap.size + 1, 1, none⟩ v1).setCell ⟨w.heap.size + 1, 2, none⟩ v2).setCell ⟨w.heap.size + 1, 3, none⟩ v3).setCell ⟨w.heap.size + 1, 4, none⟩ v4).setCell ⟨w.heap.size + 1, 5, none⟩ v5).setCell ⟨w.heap.size + 1, 6, none⟩ v6).setCell ⟨w.heap.size + 1, 7, none⟩ v7).setCell ⟨w.heap.size + 1, 8, none⟩ v8).cell? ⟨g8, 2, none⟩ = some a2 := by
  have k1 : Ub (putL w1 (w.heap.size + 1) 0 [v0, v1, v2, v3, v4, v5, v6, v7, v8]) w.heap.size F O r := Bk.put_other (C := unC F O r) h.1 0 _ (by omega)
  have k2 := h.2.2.1.put_other 0 [v0, v1, v2, v3, v4, v5, v6, v7, v8] (Nat.ne_of_gt h.2.2.2.2)
  obtain ⟨_, _, c2, c3, c4, c5, c6, c7, c8⟩ := k1.cells
  exact ⟨c2, c3, c4, c5, c6, c7, c8, k2.cell 0, k2.cell 1, k2.cell 2⟩
theorem KG.drew {w w1 : World} {F O : ByteArray} {r : P7} {g8 : Nat} {a0 a1 a2 : Value} (h : KG w w1 F O r g8 a0 a1 a2) : KG w w1.drew F O r g8 a0 a1 a2 := h.up (Below.drew (Below.refl _ _))

set_option maxRecDepth 100000 in
set_option maxHeartbeats 12800000 in
theorem qPower_any (F O : ByteArray) (p : P7) (n : Int) (hF : F.size ≤ 9223372036854775807) (hO : O.size ≤ 9223372036854775807) (w : World) (hw : Wf w) :
    Calls Tryz.prog 62 #[uv F O p, .int .i64 n] w (GiveU w (unP (bl F) (bl O) p n)) := by
  have k0 := Lib.hid (KE.start w F O p)
  have P1 := fun w' (hb : Below w.heap.size w w') => plainU_any F O p hF hO w' (hw.up hb)
  have R1 := fun w' (hb : Below w.heap.size w w') => read_any F hF w' (hw.up hb)
  obtain ⟨X, hX⟩ : ∃ X, unP (bl F) (bl O) p n = X := ⟨_, rfl⟩
  rw [hX]
  unfold unP at hX
  clear hF hO
  unfold unC u0C at k0
  cases h1 : plainU (bl F) (bl O) p
  · rw [if_neg (fun h => by rw [h1] at h; cases h)] at hX
    rw [h1] at P1
    have HX := Lib.hid hX
    clear hX h1
    obtain ⟨p0, p1, p2, p3, p4, p5, p6⟩ := p
    unfold uv at *
    dsimp only at *
    go_enter Tryz.func62, Tryz.ntmps62
    go_wp2_with (go_at_call 117; go_loud ((with_reducible refine (P1 _ k0.out.b).mono ?_); rintro e w1 ⟨rfl, hb⟩; have k1 := Lib.hid (k0.out.up hb); obtain ⟨z0, z1, z2, z3, z4, z5, z6, z7, z8⟩ := u0_cells k1.out.2.1; obtain ⟨f0, f1, f2, f3, f4, f5, f6, f7, f8⟩ := k1.out.2.1.frozen9; clear hb))
    refine bodyPost_ret (v := .tuple #[.agg u0C, .int .i64 10]) (by simp [results, Tryz.results62, go_sem, u0C, z0, z1, z2, z3, z4, z5, z6, z7, z8]) rfl ⟨?_, put9_below k1.out.b (by omega)⟩
    rw [← HX.out]; rfl
  · rw [if_pos h1] at hX
    have h1' := h1
    rw [h1] at P1
    by_cases hlo : -12 ≤ n
    · by_cases hhi : n ≤ 12
      · rw [if_pos ⟨hlo, hhi⟩] at hX
        obtain ⟨f, hf, f0, rp⟩ := plainU_parts h1
        rw [hf] at hX R1
        clear h1 h1'
        have rdU : ∀ (o : Rat) (w' : World) (S : ByteArray), Calls Tryz.prog 73 #[.string S] w' (ReadQ (some o) w') → Calls Tryz.prog 73 #[.string S] w' fun e w2 => ∃ b A n c A' n' c', e = .returned (.tuple #[.agg #[.bool b, .slice A n c, .slice A' n' c'], .bool true]) ∧ Below w'.heap.size w' w2 ∧ Fr w2 (.agg #[.bool b, .slice A n c, .slice A' n' c']) o :=
          fun o w' S h => h.mono fun e w2 ⟨b, A, n, c, A', n', c', he, hb, hF⟩ => ⟨b, A, n, c, A', n', c', he, hb, hF o rfl⟩
        have R1 := fun w' hb => rdU f w' F (R1 w' hb)
        clear rdU
        have zf := num_sz hf
        have hf0 : f ≠ 0 := Rat.ne_of_gt f0
        have zp := sz_zpow hf0 zf n
        have zn : n.natAbs * 5 ≤ 60 := by have : n.natAbs ≤ 12 := by omega
                                          omega
        have PW := fun w' v (h : Fr w' v f) => fpow_any v f n (by omega) w' h hf0 (by omega)
        have JO := fun w' v (hb : Below w.heap.size w w') (h : Fr w' v (f ^ n)) => joined_any v (f ^ n) (p.times n) w' (hw.up hb) h (by omega)
        rw [show unJ (f ^ n) (p.times n) = X from hX] at JO
        have HX := Lib.hid hX
        clear hf f0 zf zp zn hw hX hf0
        generalize f ^ n = fn at *
        obtain ⟨p0, p1, p2, p3, p4, p5, p6⟩ := p
        unfold P7.within at rp
        unfold P7.times P7.C at JO
        unfold uv at *
        dsimp only at *
        obtain ⟨⟨a0, b0⟩, ⟨a1, b1⟩, ⟨a2, b2⟩, ⟨a3, b3⟩, ⟨a4, b4⟩, ⟨a5, b5⟩, ⟨a6, b6⟩⟩ := rp
        have t0 := mul_bound ⟨a0, b0⟩ ⟨hlo, hhi⟩
        generalize hm0 : p0 * n = m0 at *
        have t0l := t0.1
        have t0h := t0.2
        clear t0
        have t1 := mul_bound ⟨a1, b1⟩ ⟨hlo, hhi⟩
        generalize hm1 : p1 * n = m1 at *
        have t1l := t1.1
        have t1h := t1.2
        clear t1
        have t2 := mul_bound ⟨a2, b2⟩ ⟨hlo, hhi⟩
        generalize hm2 : p2 * n = m2 at *
        have t2l := t2.1
        have t2h := t2.2
        clear t2
        have t3 := mul_bound ⟨a3, b3⟩ ⟨hlo, hhi⟩
        generalize hm3 : p3 * n = m3 at *
        have t3l := t3.1
        have t3h := t3.2
        clear t3
        have t4 := mul_bound ⟨a4, b4⟩ ⟨hlo, hhi⟩
        generalize hm4 : p4 * n = m4 at *
        have t4l := t4.1
        have t4h := t4.2
        clear t4
        have t5 := mul_bound ⟨a5, b5⟩ ⟨hlo, hhi⟩
        generalize hm5 : p5 * n = m5 at *
        have t5l := t5.1
        have t5h := t5.2
        clear t5
        have t6 := mul_bound ⟨a6, b6⟩ ⟨hlo, hhi⟩
        generalize hm6 : p6 * n = m6 at *
        have t6l := t6.1
        have t6h := t6.2
        clear t6
        clear a0 b0 a1 b1 a2 b2 a3 b3 a4 b4 a5 b5 a6 b6
        go_enter Tryz.func62, Tryz.ntmps62
        go_wp2_with (first
          | (go_at_call 73; go_loud ((with_reducible refine (R1 _ k1.out.b).mono ?_); rintro e w3 ⟨b7, A7, n7, d7, A8, n8, d8, rfl, hb, hF⟩; have k3 := Lib.hid (k1.out.up hb); have F3 := Lib.hid hF; have sy3 := k3.out.2.1.lt; clear hb hF))
          | (go_at_call 117; go_loud ((with_reducible refine (P1 _ k0.out.b).mono ?_); rintro e w1 ⟨rfl, hb⟩; have k1 := Lib.hid (k0.out.up hb); obtain ⟨c0, c1, c2, c3, c4, c5, c6, c7, c8⟩ := k1.out.1.cells; clear hb)))
        have bx := box_rs w3 (.bool b7) (.slice A7 n7 d7) (.slice A8 n8 d8) 77
        have k6 := Lib.hid (k3.out.up bx.2.1)
        have F6 := Lib.hid (F3.out.up bx.2.1)
        have B6 := Lib.hid (Bk.new w3 #[.bool b7, .slice A7 n7 d7, .slice A8 n8 d8] 77)
        clear bx k3 F3 c0 c1 c2 c3 c4 c5 c6 c7 c8 R1 P1
        generalize w3.alloc _ = wl at *
        obtain ⟨c0, c1, c2, c3, c4, c5, c6, c7, c8⟩ := k6.out.1.cells
        obtain ⟨f0, f1, f2, f3, f4, f5, f6, f7, f8⟩ := k6.out.1.frozen9
        refine wp_loop_rounds 8 ?_
        iterate 8 (rw [rounds_succ]; go_wp2)
        rw [put7]
        have C1 := k6.out.1
        have kd := Lib.hid (show KG w (putL wl w.heap.size 2 [.int .i64 m0, .int .i64 m1, .int .i64 m2, .int .i64 m3, .int .i64 m4, .int .i64 m5, .int .i64 m6]).drew F O ⟨m0, m1, m2, m3, m4, m5, m6⟩ w3.heap.size (.bool b7) (.slice A7 n7 d7) (.slice A8 n8 d8) from
          KG.drew ⟨C1.put7 ⟨m0, m1, m2, m3, m4, m5, m6⟩, k6.out.2.1.put_other _ _ (by omega), B6.out.put_other _ _ (by omega), putL_below (Nat.le_refl _) _ _ k6.out.b, by omega⟩)
        have F7 := Lib.hid ((F6.out.putL (C := unC F O ⟨p0, p1, p2, p3, p4, p5, p6⟩) C1 (unC_notK _ _ _) 2 [.int .i64 m0, .int .i64 m1, .int .i64 m2, .int .i64 m3, .int .i64 m4, .int .i64 m5, .int .i64 m6]).up (Below.drew (Below.refl _ _)))
        obtain ⟨⟨XF, XO, ⟨x0, x1, x2, x3, x4, x5, x6⟩⟩, xe⟩ := X
        unfold GiveU Un.v uv at JO
        dsimp only at JO
        clear F6 C1 k6 B6 c0 c1 c2 c3 c4 c5 c6 c7 c8 f0 f1 f2 f3 f4 f5 f6 f7 f8
        generalize putL wl w.heap.size 2 [.int .i64 m0, .int .i64 m1, .int .i64 m2, .int .i64 m3, .int .i64 m4, .int .i64 m5, .int .i64 m6] = wz at *
        go_region_held3 (fun w' => w'.cell? ⟨w.heap.size, 2, none⟩ = some (.int .i64 m0) ∧ w'.cell? ⟨w.heap.size, 3, none⟩ = some (.int .i64 m1) ∧ w'.cell? ⟨w.heap.size, 4, none⟩ = some (.int .i64 m2) ∧ w'.cell? ⟨w.heap.size, 5, none⟩ = some (.int .i64 m3) ∧ w'.cell? ⟨w.heap.size, 6, none⟩ = some (.int .i64 m4) ∧ w'.cell? ⟨w.heap.size, 7, none⟩ = some (.int .i64 m5) ∧ w'.cell? ⟨w.heap.size, 8, none⟩ = some (.int .i64 m6) ∧ w'.cell? ⟨w3.heap.size, 0, none⟩ = some (.bool b7) ∧ w'.cell? ⟨w3.heap.size, 1, none⟩ = some (.slice A7 n7 d7) ∧ w'.cell? ⟨w3.heap.size, 2, none⟩ = some (.slice A8 n8 d8))
          (first | (with_reducible exact k9.out.limbs_put) | (with_reducible exact k9.out.limbs) | (with_reducible exact k7.out.limbs) | (with_reducible exact kd.out.limbs) | go_keep)
          (first
            | (go_at_call 118; go_loud ((with_reducible refine (JO _ _ k7.out.b P7.out).mono ?_); rintro e w8 ⟨rfl, hb⟩; have k9 := Lib.hid (k7.out.up hb); obtain ⟨z0, z1, z2, z3, z4, z5, z6, z7, z8⟩ := u0_cells k9.out.2.1; obtain ⟨f0, f1, f2, f3, f4, f5, f6, f7, f8⟩ := k9.out.2.1.frozen9; clear hb))
            | (go_at_call 75; go_loud ((with_reducible refine (PW _ _ F7.out).mono ?_); rintro e w6 ⟨v, rfl, hF, hb⟩; have k7 := Lib.hid (kd.out.up hb); have P7 := Lib.hid hF; clear hF hb)))
        go_wp2
        refine bodyPost_ret (v := .tuple #[.agg #[.string ⟨XF.toArray⟩, .string ⟨XO.toArray⟩, .int .i64 x0, .int .i64 x1, .int .i64 x2, .int .i64 x3, .int .i64 x4, .int .i64 x5, .int .i64 x6], .int .i64 xe]) (by simp [results, Tryz.results62, go_sem, z0, z1, z2, z3, z4, z5, z6, z7, z8]) rfl ⟨rfl, put9_below k9.out.b (by omega)⟩
      · rw [if_neg (fun h => hhi h.2)] at hX
        have HX := Lib.hid hX
        clear hX h1 h1'
        obtain ⟨p0, p1, p2, p3, p4, p5, p6⟩ := p
        unfold uv at *
        dsimp only at *
        go_enter Tryz.func62, Tryz.ntmps62
        go_wp2_with (go_at_call 117; go_loud ((with_reducible refine (P1 _ k0.out.b).mono ?_); rintro e w1 ⟨rfl, hb⟩; have k1 := Lib.hid (k0.out.up hb); obtain ⟨z0, z1, z2, z3, z4, z5, z6, z7, z8⟩ := u0_cells k1.out.2.1; obtain ⟨f0, f1, f2, f3, f4, f5, f6, f7, f8⟩ := k1.out.2.1.frozen9; clear hb))
        refine bodyPost_ret (v := .tuple #[.agg u0C, .int .i64 2]) (by simp [results, Tryz.results62, go_sem, u0C, z0, z1, z2, z3, z4, z5, z6, z7, z8]) rfl ⟨?_, put9_below k1.out.b (by omega)⟩
        rw [← HX.out]; rfl
    · rw [if_neg (fun h => hlo h.1)] at hX
      have HX := Lib.hid hX
      clear hX h1 h1'
      obtain ⟨p0, p1, p2, p3, p4, p5, p6⟩ := p
      unfold uv at *
      dsimp only at *
      go_enter Tryz.func62, Tryz.ntmps62
      go_wp2_with (go_at_call 117; go_loud ((with_reducible refine (P1 _ k0.out.b).mono ?_); rintro e w1 ⟨rfl, hb⟩; have k1 := Lib.hid (k0.out.up hb); obtain ⟨z0, z1, z2, z3, z4, z5, z6, z7, z8⟩ := u0_cells k1.out.2.1; obtain ⟨f0, f1, f2, f3, f4, f5, f6, f7, f8⟩ := k1.out.2.1.frozen9; clear hb))
      refine bodyPost_ret (v := .tuple #[.agg u0C, .int .i64 2]) (by simp [results, Tryz.results62, go_sem, u0C, z0, z1, z2, z3, z4, z5, z6, z7, z8]) rfl ⟨?_, put9_below k1.out.b (by omega)⟩
      rw [← HX.out]; rfl

end Go.Proofs.YtinoipjblkidfaaGreatDoor

/- Units of the program: Convert. -/
namespace Go.Proofs.YtinoipjblkidfaaGreatDoor
open Go.RowKit Go.Proofs.YtinoipjblkidfaaGreatDoor.Dg Go.Proofs.YtinoipjblkidfaaGreatDoor.Q Go.Proofs.YtinoipjblkidfaaGreatDoor.Num

/-- What Convert gives. -/
def qconv (X F O : List UInt8) (p : P7) (F' O' : List UInt8) (p' : P7) : List UInt8 × Int :=
  if vU F O p = true then (if vU F' O' p' = true then (if p = p' then match num? X, num? F, num? O, num? F', num? O' with
    | some v, some f, some a, some g, some b => (put ((f * v + a - b) / g), 0)
    | _, _, _, _, _ => ([], 0)
  else ([], 11)) else ([], 10)) else ([], 10)
def KV (w w' : World) (F O : ByteArray) (p : P7) (F' O' : ByteArray) (p' : P7) : Prop := Ub w' w.heap.size F O p ∧ Ub w' (w.heap.size + 1) F' O' p' ∧ Below w.heap.size w w'
theorem KV.b {w w' : World} {F O F' O' : ByteArray} {p p' : P7} (h : KV w w' F O p F' O' p') : Below w.heap.size w w' := h.2.2
theorem KV.up {w w1 w2 : World} {F O F' O' : ByteArray} {p p' : P7} (h : KV w w1 F O p F' O' p') (hb : Below w1.heap.size w1 w2) : KV w w2 F O p F' O' p' := ⟨h.1.up hb, h.2.1.up hb, btrans h.2.2 hb⟩
theorem KV.start (w : World) (F O F' O' : ByteArray) (p p' : P7) : KV w ((w.alloc (.cells (unC F O p) 24)).alloc (.cells (unC F' O' p') 24)) F O p F' O' p' := by
  have s1 : (w.alloc (.cells (unC F O p) 24)).heap.size = w.heap.size + 1 := by simp
  refine ⟨(Bk.new w _ _).alloc, ?_, ((Below.refl _ w).alloc (Nat.le_refl _) _).alloc (by rw [s1]; omega) _⟩
  have := Bk.new (w.alloc (.cells (unC F O p) 24)) (unC F' O' p') 24
  rw [s1] at this
  exact this
/-- Five fractions in blocks. -/
def KX (w w' : World) (h0 h1 h2 h3 h4 : Nat) (x0 y0 z0 x1 y1 z1 x2 y2 z2 x3 y3 z3 x4 y4 z4 : Value) : Prop := Bk w' h0 #[x0, y0, z0] 77 ∧ Bk w' h1 #[x1, y1, z1] 77 ∧ Bk w' h2 #[x2, y2, z2] 77 ∧ Bk w' h3 #[x3, y3, z3] 77 ∧ Bk w' h4 #[x4, y4, z4] 77 ∧ Below w.heap.size w w'
theorem KX.b {w w' : World} {h0 h1 h2 h3 h4 : Nat} {x0 y0 z0 x1 y1 z1 x2 y2 z2 x3 y3 z3 x4 y4 z4 : Value} (h : KX w w' h0 h1 h2 h3 h4 x0 y0 z0 x1 y1 z1 x2 y2 z2 x3 y3 z3 x4 y4 z4) : Below w.heap.size w w' := h.2.2.2.2.2
theorem KX.up {w w1 w2 : World} {h0 h1 h2 h3 h4 : Nat} {x0 y0 z0 x1 y1 z1 x2 y2 z2 x3 y3 z3 x4 y4 z4 : Value} (h : KX w w1 h0 h1 h2 h3 h4 x0 y0 z0 x1 y1 z1 x2 y2 z2 x3 y3 z3 x4 y4 z4) (hb : Below w1.heap.size w1 w2) : KX w w2 h0 h1 h2 h3 h4 x0 y0 z0 x1 y1 z1 x2 y2 z2 x3 y3 z3 x4 y4 z4 := ⟨h.1.up hb, h.2.1.up hb, h.2.2.1.up hb, h.2.2.2.1.up hb, h.2.2.2.2.1.up hb, btrans h.b hb⟩
theorem KX.limbs {w w' : World} {h0 h1 h2 h3 h4 : Nat} {x0 y0 z0 x1 y1 z1 x2 y2 z2 x3 y3 z3 x4 y4 z4 : Value} (h : KX w w' h0 h1 h2 h3 h4 x0 y0 z0 x1 y1 z1 x2 y2 z2 x3 y3 z3 x4 y4 z4) : w'.cell? ⟨h0, 0, none⟩ = some x0 ∧ w'.cell? ⟨h0, 1, none⟩ = some y0 ∧ w'.cell? ⟨h0, 2, none⟩ = some z0 ∧ w'.cell? ⟨h1, 0, none⟩ = some x1 ∧ w'.cell? ⟨h1, 1, none⟩ = some y1 ∧ w'.cell? ⟨h1, 2, none⟩ = some z1 ∧ w'.cell? ⟨h2, 0, none⟩ = some x2 ∧ w'.cell? ⟨h2, 1, none⟩ = some y2 ∧ w'.cell? ⟨h2, 2, none⟩ = some z2 ∧ w'.cell? ⟨h3, 0, none⟩ = some x3 ∧ w'.cell? ⟨h3, 1, none⟩ = some y3 ∧ w'.cell? ⟨h3, 2, none⟩ = some z3 ∧ w'.cell? ⟨h4, 0, none⟩ = some x4 ∧ w'.cell? ⟨h4, 1, none⟩ = some y4 ∧ w'.cell? ⟨h4, 2, none⟩ = some z4 :=
  ⟨h.1.cell 0, h.1.cell 1, h.1.cell 2, h.2.1.cell 0, h.2.1.cell 1, h.2.1.cell 2, h.2.2.1.cell 0, h.2.2.1.cell 1, h.2.2.1.cell 2, h.2.2.2.1.cell 0, h.2.2.2.1.cell 1, h.2.2.2.1.cell 2, h.2.2.2.2.1.cell 0, h.2.2.2.2.1.cell 1, h.2.2.2.2.1.cell 2⟩
theorem vU_no {F O : List UInt8} {p : P7} (h : vU F O p = false) : ¬ vU F O p = true := fun e => by rw [h] at e; cases e
/-- What a reader of a good text gives. -/
theorem rdU (o : Rat) (w' : World) (S : ByteArray) (h : Calls Tryz.prog 73 #[.string S] w' (ReadQ (some o) w')) : Calls Tryz.prog 73 #[.string S] w' fun e w2 => ∃ b A n c A' n' c', e = .returned (.tuple #[.agg #[.bool b, .slice A n c, .slice A' n' c'], .bool true]) ∧ Below w'.heap.size w' w2 ∧ Fr w2 (.agg #[.bool b, .slice A n c, .slice A' n' c']) o :=
  h.mono fun _ _ ⟨b, A, n, c, A', n', c', he, hb, hF⟩ => ⟨b, A, n, c, A', n', c', he, hb, hF o rfl⟩

set_option maxRecDepth 100000 in
set_option maxHeartbeats 12800000 in
theorem qConvert_any (X F O F' O' : ByteArray) (p p' : P7) (hx : X.size ≤ 9223372036854775807) (hF : F.size ≤ 9223372036854775807) (hO : O.size ≤ 9223372036854775807) (hF' : F'.size ≤ 9223372036854775807) (hO' : O'.size ≤ 9223372036854775807) (w : World) (hw : Wf w) :
    Calls Tryz.prog 38 #[.string X, uv F O p, uv F' O' p'] w fun e w' => e = .returned (.tuple #[.string ⟨(qconv (bl X) (bl F) (bl O) p (bl F') (bl O') p').1.toArray⟩, .int .i64 (qconv (bl X) (bl F) (bl O) p (bl F') (bl O') p').2]) ∧ Below w.heap.size w w' := by
  have k0 := Lib.hid (KV.start w F O F' O' p p')
  have V1 := fun w' (hb : Below w.heap.size w w') => validU_any F O p hF hO w' (hw.up hb)
  have V2 := fun w' (hb : Below w.heap.size w w') => validU_any F' O' p' hF' hO' w' (hw.up hb)
  have R0 := fun w' (hb : Below w.heap.size w w') => read_any X hx w' (hw.up hb)
  have R1 := fun w' (hb : Below w.heap.size w w') => read_any F hF w' (hw.up hb)
  have R2 := fun w' (hb : Below w.heap.size w w') => read_any O hO w' (hw.up hb)
  have R3 := fun w' (hb : Below w.heap.size w w') => read_any F' hF' w' (hw.up hb)
  have R4 := fun w' (hb : Below w.heap.size w w') => read_any O' hO' w' (hw.up hb)
  obtain ⟨Y, hY⟩ : ∃ Y, qconv (bl X) (bl F) (bl O) p (bl F') (bl O') p' = Y := ⟨_, rfl⟩
  rw [hY]
  unfold qconv at hY
  clear hF hF' hO hO' hx
  unfold unC at k0
  have e3 : ∀ w, (Op.equalIn 10000 22 (.agg p.C) (.agg p'.C)).run Tryz.prog w = .ok (decide (p = p')) w := fun w => eq7 9998 p p' w
  cases c1 : vU (bl F) (bl O) p
  · rw [if_neg (vU_no c1)] at hY
    rw [c1] at V1
    have HY := Lib.hid hY
    clear hY c1 e3 hw
    obtain ⟨p0, p1, p2, p3, p4, p5, p6⟩ := p
    obtain ⟨q0, q1, q2, q3, q4, q5, q6⟩ := p'
    unfold uv at *
    dsimp only at *
    go_enter Tryz.func38, Tryz.ntmps38
    go_wp2_with (go_at_call 19; go_loud ((with_reducible refine (V1 _ k0.out.b).mono ?_); rintro e w1 ⟨rfl, hb⟩; have k1 := Lib.hid (k0.out.up hb); clear hb))
    go_ret2
    exact ⟨by rw [← HY.out]; rfl, k1.out.b⟩
  rw [if_pos c1] at hY
  cases c2 : vU (bl F') (bl O') p'
  · rw [if_neg (vU_no c2)] at hY
    rw [c1] at V1
    rw [c2] at V2
    have HY := Lib.hid hY
    clear hY c1 c2 e3 hw
    obtain ⟨p0, p1, p2, p3, p4, p5, p6⟩ := p
    obtain ⟨q0, q1, q2, q3, q4, q5, q6⟩ := p'
    unfold uv at *
    dsimp only at *
    go_enter Tryz.func38, Tryz.ntmps38
    go_wp2_with (first
      | (go_at_call 19; ((with_reducible refine (V2 _ k1.out.b).mono ?_); rintro e w2 ⟨rfl, hb⟩; have k2 := Lib.hid (k1.out.up hb); clear hb))
      | (go_at_call 19; go_loud ((with_reducible refine (V1 _ k0.out.b).mono ?_); rintro e w1 ⟨rfl, hb⟩; have k1 := Lib.hid (k0.out.up hb); obtain ⟨c0, c1, c2, c3, c4, c5, c6, c7, c8⟩ := k1.out.2.1.cells; clear hb)))
    go_ret2
    exact ⟨by rw [← HY.out]; rfl, k2.out.b⟩
  rw [if_pos c2] at hY
  by_cases c3 : p = p'
  rotate_left
  · rw [if_neg c3] at hY
    rw [c1] at V1
    rw [c2] at V2
    rw [decide_eq_false c3] at e3
    have HY := Lib.hid hY
    clear hY c1 c2 c3 hw
    unfold P7.C at e3
    obtain ⟨p0, p1, p2, p3, p4, p5, p6⟩ := p
    obtain ⟨q0, q1, q2, q3, q4, q5, q6⟩ := p'
    unfold uv at *
    dsimp only at *
    go_enter Tryz.func38, Tryz.ntmps38
    go_wp2_with (first
      | (go_at_call 19; ((with_reducible refine (V2 _ k1.out.b).mono ?_); rintro e w2 ⟨rfl, hb⟩; have k2 := Lib.hid (k1.out.up hb); obtain ⟨c0, c1, c2, c3, c4, c5, c6, c7, c8⟩ := k2.out.1.cells; obtain ⟨d0, d1, d2, d3, d4, d5, d6, d7, d8⟩ := k2.out.2.1.cells; clear hb))
      | (go_at_call 19; go_loud ((with_reducible refine (V1 _ k0.out.b).mono ?_); rintro e w1 ⟨rfl, hb⟩; have k1 := Lib.hid (k0.out.up hb); obtain ⟨c0, c1, c2, c3, c4, c5, c6, c7, c8⟩ := k1.out.2.1.cells; clear hb)))
    go_ret2
    exact ⟨by rw [← HY.out]; rfl, k2.out.b⟩
  rw [if_pos c3] at hY
  rw [decide_eq_true c3] at e3
  obtain ⟨f, a, hf, f0, ha, _⟩ := vU_parts c1
  obtain ⟨g, b, hg, g0, hb, _⟩ := vU_parts c2
  rw [hf, ha, hg, hb] at hY
  rw [hf] at R1
  rw [ha] at R2
  rw [hg] at R3
  rw [hb] at R4
  rw [c1] at V1
  rw [c2] at V2
  have zf := num_sz hf
  have za := num_sz ha
  have zg := num_sz hg
  have zb := num_sz hb
  clear hf ha hg hb f0 c1 c2
  unfold P7.C at e3
  cases cx : num? (bl X) with
  | none =>
    rw [cx] at hY R0
    have HY := Lib.hid hY
    clear hY c3 cx hw
    obtain ⟨p0, p1, p2, p3, p4, p5, p6⟩ := p
    obtain ⟨q0, q1, q2, q3, q4, q5, q6⟩ := p'
    unfold uv at *
    dsimp only at *
    go_enter Tryz.func38, Tryz.ntmps38
    go_wp2_with (first
      | (go_at_call 73; go_loud ((with_reducible refine (R0 _ k2.out.b).mono ?_); rintro e w3 ⟨b5, A5, n5, d5, A6, n6, d6, rfl, hb, hF⟩; have k3 := Lib.hid (k2.out.up hb); have bx := Lib.hid (box_rs w3 (.bool b5) (.slice A5 n5 d5) (.slice A6 n6 d6) 77); clear hb hF))
      | (go_at_call 19; ((with_reducible refine (V2 _ k1.out.b).mono ?_); rintro e w2 ⟨rfl, hb⟩; have k2 := Lib.hid (k1.out.up hb); obtain ⟨c0, c1, c2, c3, c4, c5, c6, c7, c8⟩ := k2.out.1.cells; obtain ⟨d0, d1, d2, d3, d4, d5, d6, d7, d8⟩ := k2.out.2.1.cells; clear hb))
      | (go_at_call 19; go_loud ((with_reducible refine (V1 _ k0.out.b).mono ?_); rintro e w1 ⟨rfl, hb⟩; have k1 := Lib.hid (k0.out.up hb); obtain ⟨c0, c1, c2, c3, c4, c5, c6, c7, c8⟩ := k1.out.2.1.cells; clear hb)))
    go_ret2
    exact ⟨by rw [← HY.out]; rfl, btrans k3.out.b bx.out.2.1⟩
  | some v =>
    rw [cx] at hY R0
    have zv := num_sz cx
    have hg0 : g ≠ 0 := Rat.ne_of_gt g0
    have t1 := sz_mul f v
    have t2 := sz_add (f * v) a
    have t3 := sz_sub (f * v + a) b
    have t4 := sz_div (a := f * v + a - b) hg0
    have MU := fun w' x y (h : Fr w' x f) (h' : Fr w' y v) => fmul_any x y f v w' h h' (by omega)
    have AD := fun w' x y (h : Fr w' x (f * v)) (h' : Fr w' y a) => fadd_any x y (f * v) a w' h h' (by omega)
    have SU := fun w' x y (h : Fr w' x (f * v + a)) (h' : Fr w' y b) => fsub_any x y (f * v + a) b w' h h' (by omega)
    have DI := fun w' x y (h : Fr w' x (f * v + a - b)) (h' : Fr w' y g) => fdiv_any x y (f * v + a - b) g w' h h' hg0 (by omega)
    have VA := fun w' x (hb : Below w.heap.size w w') (h : Fr w' x ((f * v + a - b) / g)) => fvalue_any x ((f * v + a - b) / g) w' (hw.up hb) h (by omega)
    clear c3 cx hw zv hg0 t1 t2 t3 t4 zf za zg zb g0
    have hY : (put ((f * v + a - b) / g), (0 : Int)) = Y := hY
    generalize (f * v + a - b) / g = m4 at *
    generalize f * v + a - b = m3 at *
    generalize f * v + a = m2 at *
    generalize f * v = m1 at *
    have HY := Lib.hid hY
    clear hY
    have R0 := fun w' hb => rdU v w' X (R0 w' hb)
    have R1 := fun w' hb => rdU f w' F (R1 w' hb)
    have R2 := fun w' hb => rdU a w' O (R2 w' hb)
    have R3 := fun w' hb => rdU g w' F' (R3 w' hb)
    have R4 := fun w' hb => rdU b w' O' (R4 w' hb)
    obtain ⟨p0, p1, p2, p3, p4, p5, p6⟩ := p
    obtain ⟨q0, q1, q2, q3, q4, q5, q6⟩ := p'
    unfold uv at *
    dsimp only at *
    go_enter Tryz.func38, Tryz.ntmps38
    go_wp2_with (first
      | (go_at_call 73; go_loud ((with_reducible refine (R4 _ k6.out.b).mono ?_); rintro e w7 ⟨b4, A4, n4, dd4, C4, u4, e4, rfl, hb, hF⟩; have kk := Lib.hid (k6.out.up hb); have bx := box_rs w7 (.bool b4) (.slice A4 n4 dd4) (.slice C4 u4 e4) 77; have B0 := Lib.hid ((B0.out.up hb).up bx.2.1); have F0 := Lib.hid ((F0.out.up hb).up bx.2.1); have B1 := Lib.hid ((B1.out.up hb).up bx.2.1); have F1 := Lib.hid ((F1.out.up hb).up bx.2.1); have B2 := Lib.hid ((B2.out.up hb).up bx.2.1); have F2 := Lib.hid ((F2.out.up hb).up bx.2.1); have B3 := Lib.hid ((B3.out.up hb).up bx.2.1); have F3 := Lib.hid ((F3.out.up hb).up bx.2.1); have k7 := Lib.hid (kk.out.up bx.2.1); have F4 := Lib.hid (hF.up bx.2.1); have B4 := Lib.hid (Bk.new w7 #[.bool b4, .slice A4 n4 dd4, .slice C4 u4 e4] 77); obtain ⟨c0, c1, c2, c3, c4, c5, c6, c7, c8⟩ := kk.out.1.cells; obtain ⟨d0, d1, d2, d3, d4, d5, d6, d7, d8⟩ := kk.out.2.1.cells; have l1 := kk.out.1.lt; have l2 := kk.out.2.1.lt; clear hb hF bx kk))
      | (go_at_call 73; go_loud ((with_reducible refine (R3 _ k5.out.b).mono ?_); rintro e w6 ⟨b3, A3, n3, dd3, C3, u3, e3, rfl, hb, hF⟩; have kk := Lib.hid (k5.out.up hb); have bx := box_rs w6 (.bool b3) (.slice A3 n3 dd3) (.slice C3 u3 e3) 77; have B0 := Lib.hid ((B0.out.up hb).up bx.2.1); have F0 := Lib.hid ((F0.out.up hb).up bx.2.1); have B1 := Lib.hid ((B1.out.up hb).up bx.2.1); have F1 := Lib.hid ((F1.out.up hb).up bx.2.1); have B2 := Lib.hid ((B2.out.up hb).up bx.2.1); have F2 := Lib.hid ((F2.out.up hb).up bx.2.1); have k6 := Lib.hid (kk.out.up bx.2.1); have F3 := Lib.hid (hF.up bx.2.1); have B3 := Lib.hid (Bk.new w6 #[.bool b3, .slice A3 n3 dd3, .slice C3 u3 e3] 77); obtain ⟨c0, c1, c2, c3, c4, c5, c6, c7, c8⟩ := kk.out.1.cells; obtain ⟨d0, d1, d2, d3, d4, d5, d6, d7, d8⟩ := kk.out.2.1.cells; have l1 := kk.out.1.lt; have l2 := kk.out.2.1.lt; clear hb hF bx kk))
      | (go_at_call 73; go_loud ((with_reducible refine (R2 _ k4.out.b).mono ?_); rintro e w5 ⟨b2, A2, n2, dd2, C2, u2, e2, rfl, hb, hF⟩; have kk := Lib.hid (k4.out.up hb); have bx := box_rs w5 (.bool b2) (.slice A2 n2 dd2) (.slice C2 u2 e2) 77; have B0 := Lib.hid ((B0.out.up hb).up bx.2.1); have F0 := Lib.hid ((F0.out.up hb).up bx.2.1); have B1 := Lib.hid ((B1.out.up hb).up bx.2.1); have F1 := Lib.hid ((F1.out.up hb).up bx.2.1); have k5 := Lib.hid (kk.out.up bx.2.1); have F2 := Lib.hid (hF.up bx.2.1); have B2 := Lib.hid (Bk.new w5 #[.bool b2, .slice A2 n2 dd2, .slice C2 u2 e2] 77); obtain ⟨c0, c1, c2, c3, c4, c5, c6, c7, c8⟩ := kk.out.1.cells; obtain ⟨d0, d1, d2, d3, d4, d5, d6, d7, d8⟩ := kk.out.2.1.cells; have l1 := kk.out.1.lt; have l2 := kk.out.2.1.lt; clear hb hF bx kk))
      | (go_at_call 73; go_loud ((with_reducible refine (R1 _ k3.out.b).mono ?_); rintro e w4 ⟨b1, A1, n1, dd1, C1, u1, e1, rfl, hb, hF⟩; have kk := Lib.hid (k3.out.up hb); have bx := box_rs w4 (.bool b1) (.slice A1 n1 dd1) (.slice C1 u1 e1) 77; have B0 := Lib.hid ((B0.out.up hb).up bx.2.1); have F0 := Lib.hid ((F0.out.up hb).up bx.2.1); have k4 := Lib.hid (kk.out.up bx.2.1); have F1 := Lib.hid (hF.up bx.2.1); have B1 := Lib.hid (Bk.new w4 #[.bool b1, .slice A1 n1 dd1, .slice C1 u1 e1] 77); obtain ⟨c0, c1, c2, c3, c4, c5, c6, c7, c8⟩ := kk.out.1.cells; obtain ⟨d0, d1, d2, d3, d4, d5, d6, d7, d8⟩ := kk.out.2.1.cells; have l1 := kk.out.1.lt; have l2 := kk.out.2.1.lt; clear hb hF bx kk))
      | (go_at_call 73; go_loud ((with_reducible refine (R0 _ k2.out.b).mono ?_); rintro e w3 ⟨b0, A0, n0, dd0, C0, u0, e0, rfl, hb, hF⟩; have kk := Lib.hid (k2.out.up hb); have bx := box_rs w3 (.bool b0) (.slice A0 n0 dd0) (.slice C0 u0 e0) 77; have k3 := Lib.hid (kk.out.up bx.2.1); have F0 := Lib.hid (hF.up bx.2.1); have B0 := Lib.hid (Bk.new w3 #[.bool b0, .slice A0 n0 dd0, .slice C0 u0 e0] 77); obtain ⟨c0, c1, c2, c3, c4, c5, c6, c7, c8⟩ := kk.out.1.cells; obtain ⟨d0, d1, d2, d3, d4, d5, d6, d7, d8⟩ := kk.out.2.1.cells; have l1 := kk.out.1.lt; have l2 := kk.out.2.1.lt; clear hb hF bx kk))
      | (go_at_call 19; ((with_reducible refine (V2 _ k1.out.b).mono ?_); rintro e w2 ⟨rfl, hb⟩; have k2 := Lib.hid (k1.out.up hb); obtain ⟨c0, c1, c2, c3, c4, c5, c6, c7, c8⟩ := k2.out.1.cells; obtain ⟨d0, d1, d2, d3, d4, d5, d6, d7, d8⟩ := k2.out.2.1.cells; clear hb))
      | (go_at_call 19; go_loud ((with_reducible refine (V1 _ k0.out.b).mono ?_); rintro e w1 ⟨rfl, hb⟩; have k1 := Lib.hid (k0.out.up hb); obtain ⟨c0, c1, c2, c3, c4, c5, c6, c7, c8⟩ := k1.out.2.1.cells; clear hb)))
    clear R0 R1 R2 R3 R4 V1 V2 c0 c1 c2 c3 c4 c5 c6 c7 c8 d0 d1 d2 d3 d4 d5 d6 d7 d8
    have kd := Lib.hid (show KX w _ w3.heap.size w4.heap.size w5.heap.size w6.heap.size w7.heap.size (.bool b0) (.slice A0 n0 dd0) (.slice C0 u0 e0) (.bool b1) (.slice A1 n1 dd1) (.slice C1 u1 e1) (.bool b2) (.slice A2 n2 dd2) (.slice C2 u2 e2) (.bool b3) (.slice A3 n3 dd3) (.slice C3 u3 e3) (.bool b4) (.slice A4 n4 dd4) (.slice C4 u4 e4) from
      ⟨B0.out, B1.out, B2.out, B3.out, B4.out, k7.out.b⟩)
    clear B0 B1 B2 B3 B4 k2 k3 k4 k5 k6 k7 l1 l2
    generalize w7.alloc _ = wz at *
    have ke := Lib.hid (kd.out.up (Below.drew (Below.refl wz.heap.size wz)))
    have E := Lib.hid (Below.drew (Below.refl wz.heap.size wz))
    clear kd
    go_region_held3 (fun w' => w'.cell? ⟨w3.heap.size, 0, none⟩ = some (.bool b0) ∧ w'.cell? ⟨w3.heap.size, 1, none⟩ = some (.slice A0 n0 dd0) ∧ w'.cell? ⟨w3.heap.size, 2, none⟩ = some (.slice C0 u0 e0) ∧ w'.cell? ⟨w4.heap.size, 0, none⟩ = some (.bool b1) ∧ w'.cell? ⟨w4.heap.size, 1, none⟩ = some (.slice A1 n1 dd1) ∧ w'.cell? ⟨w4.heap.size, 2, none⟩ = some (.slice C1 u1 e1) ∧ w'.cell? ⟨w5.heap.size, 0, none⟩ = some (.bool b2) ∧ w'.cell? ⟨w5.heap.size, 1, none⟩ = some (.slice A2 n2 dd2) ∧ w'.cell? ⟨w5.heap.size, 2, none⟩ = some (.slice C2 u2 e2) ∧ w'.cell? ⟨w6.heap.size, 0, none⟩ = some (.bool b3) ∧ w'.cell? ⟨w6.heap.size, 1, none⟩ = some (.slice A3 n3 dd3) ∧ w'.cell? ⟨w6.heap.size, 2, none⟩ = some (.slice C3 u3 e3) ∧ w'.cell? ⟨w7.heap.size, 0, none⟩ = some (.bool b4) ∧ w'.cell? ⟨w7.heap.size, 1, none⟩ = some (.slice A4 n4 dd4) ∧ w'.cell? ⟨w7.heap.size, 2, none⟩ = some (.slice C4 u4 e4))
      (first | (with_reducible exact k5.out.limbs) | (with_reducible exact k4.out.limbs) | (with_reducible exact k3.out.limbs) | (with_reducible exact k2.out.limbs) | (with_reducible exact k1.out.limbs) | (with_reducible exact ke.out.limbs) | go_keep)
      (first
        | (go_at_call 76; go_loud ((with_reducible refine (VA _ _ k4.out.b G4.out).mono ?_); rintro e w5 ⟨rfl, hb⟩; have k5 := Lib.hid (k4.out.up hb); clear hb))
        | (go_at_call 97; go_loud ((with_reducible refine (DI _ _ _ G3.out (F3.out.up E3.out)).mono ?_); rintro e w4 ⟨v, rfl, hF, hb⟩; have k4 := Lib.hid (k3.out.up hb); have G4 := Lib.hid hF; clear hF hb))
        | (go_at_call 95; go_loud ((with_reducible refine (SU _ _ _ G2.out (F4.out.up E2.out)).mono ?_); rintro e w3 ⟨v, rfl, hF, hb⟩; have k3 := Lib.hid (k2.out.up hb); have G3 := Lib.hid hF; have E3 := Lib.hid (btrans E2.out hb); clear hF hb))
        | (go_at_call 94; go_loud ((with_reducible refine (AD _ _ _ G1.out (F2.out.up E1.out)).mono ?_); rintro e w2 ⟨v, rfl, hF, hb⟩; have k2 := Lib.hid (k1.out.up hb); have G2 := Lib.hid hF; have E2 := Lib.hid (btrans E1.out hb); clear hF hb))
        | (go_at_call 74; go_loud ((with_reducible refine (MU _ _ _ (F1.out.up E.out) (F0.out.up E.out)).mono ?_); rintro e w1 ⟨v, rfl, hF, hb⟩; have k1 := Lib.hid (ke.out.up hb); have G1 := Lib.hid hF; have E1 := Lib.hid (btrans E.out hb); clear hF hb)))
    go_wp2
    go_ret2
    exact ⟨by rw [← HY.out]; rfl, k5.out.b⟩

end Go.Proofs.YtinoipjblkidfaaGreatDoor

/- Texts of units: number, word, prefix of the program. -/
namespace Go.Proofs.YtinoipjblkidfaaGreatDoor
open Go.RowKit Go.Proofs.YtinoipjblkidfaaGreatDoor.Dg Go.Proofs.YtinoipjblkidfaaGreatDoor.Q Go.Proofs.YtinoipjblkidfaaGreatDoor.Num Go.Proofs.YtinoipjblkidfaaGreatDoor.Str

theorem Tryz.infoSetL : (Tryz.prog.info? (Tryz.lays161_ren.t 116)).map (fun i => (i.zero, i.size)) = some (some (.agg (Array.replicate 256 (.bool false))), 256) := by kernel_rfl
/-- How many digits a text begins with. -/
def cnt (l : List UInt8) : Nat := (l.takeWhile isD).length
theorem trimL_digits (l : List UInt8) : Lib.trimLeftS l cs10 = l.dropWhile isD := by
  unfold Lib.trimLeftS
  congr 1
  funext c
  exact mem_cs10 c
theorem cnt_drop (l : List UInt8) : cnt l + (l.dropWhile isD).length = l.length := by
  unfold cnt
  have := congrArg List.length (List.takeWhile_append_dropWhile (p := isD) (l := l))
  rw [List.length_append] at this
  exact this
theorem cnt_le (l : List UInt8) : cnt l ≤ l.length := by have := cnt_drop l; omega
theorem trimleft_any (S : ByteArray) (w : World) :
    Calls Tryz.prog 165 #[.string S, .string ⟨#[48, 49, 50, 51, 52, 53, 54, 55, 56, 57]⟩] w fun e w' => ∃ T : ByteArray, e = .returned (.string T) ∧ (T.size : Int) = (S.size : Int) - (cnt (bl S) : Int) ∧ Below w.heap.size w w' :=
  (Any.strings_TrimLeft_laid Tryz.lays161 Tryz.infoSetL S ⟨#[48, 49, 50, 51, 52, 53, 54, 55, 56, 57]⟩ w (by decide) (ascii_of_all (by decide))).mono fun e w' ⟨h1, h2⟩ => ⟨_, h1, by
    have := cnt_drop (bl S)
    rw [bl_len] at this
    rw [← bl_len, bl_mk, show (S.data.toList : List UInt8) = bl S from rfl, show (⟨#[48, 49, 50, 51, 52, 53, 54, 55, 56, 57]⟩ : ByteArray).data.toList = cs10 from rfl, trimL_digits]
    omega, h2⟩

set_option maxRecDepth 100000 in
set_option maxHeartbeats 1600000 in
theorem count_any (S : ByteArray) (hs : S.size ≤ 1000) (w : World) : Calls Tryz.prog 164 #[.string S] w fun e w' => e = .returned (.int .i64 (cnt (bl S))) ∧ Below w.heap.size w w' := by
  have T := trimleft_any S w
  have sb : (S.size : Int) ≤ 1000 := by omega
  have hle := cnt_le (bl S)
  rw [bl_len] at hle
  generalize cnt (bl S) = n at *
  have nb : (n : Int) ≤ (S.size : Int) := by omega
  have e1 : (S.size : Int) - ((S.size : Int) - (n : Int)) = (n : Int) := by omega
  go_enter Tryz.func164, Tryz.ntmps164
  go_wp2_with (go_at_call 165; go_loud (refine T.mono ?_; rintro e w1 ⟨T1, rfl, hT, hb⟩; have B := Lib.hid hb; clear hb))
  go_ret
  exact ⟨rfl, B.out⟩

/-- How long the number is with which a text begins. -/
def numb (l : List UInt8) : Nat :=
  if 0 < cnt l ∧ (l[cnt l]? = some 46 ∨ l[cnt l]? = some 47) then
    (if 0 < cnt (l.drop (cnt l + 1)) then cnt l + 1 + cnt (l.drop (cnt l + 1)) else cnt l)
  else cnt l
theorem byte_eq (c d : UInt8) : (c.toNat : Int) = (d.toNat : Int) ↔ c = d := by
  rw [Int.natCast_inj]
  exact UInt8.toNat_inj

set_option maxRecDepth 100000 in
set_option maxHeartbeats 3200000 in
theorem number_any (S : ByteArray) (hs : S.size ≤ 1000) (w : World) : Calls Tryz.prog 123 #[.string S] w fun e w' => e = .returned (.int .i64 (numb (bl S))) ∧ Below w.heap.size w w' := by
  have sb : (S.size : Int) ≤ 1000 := by omega
  have C1 := fun w => count_any S hs w
  have hle := cnt_le (bl S)
  rw [bl_len] at hle
  obtain ⟨X, hX⟩ : ∃ X, numb (bl S) = X := ⟨_, rfl⟩
  rw [hX]
  unfold numb at hX
  obtain ⟨n, hn⟩ : ∃ n, cnt (bl S) = n := ⟨_, rfl⟩
  rw [hn] at hX hle C1
  have nb : (n : Int) ≤ (S.size : Int) := by omega
  by_cases h0 : 0 < n
  rotate_left
  · rw [if_neg (fun h => h0 h.1)] at hX
    subst hX
    have g0 : ¬ (0 : Int) < (n : Int) := by omega
    clear h0 hn hle
    go_enter Tryz.func123, Tryz.ntmps123
    go_wp2_with (go_at_call 164; go_loud (refine (C1 _).mono ?_; rintro e w1 ⟨rfl, hb⟩; have B1 := Lib.hid hb; clear hb))
    go_ret
    exact ⟨rfl, B1.out⟩
  have g0 : (0 : Int) < (n : Int) := by omega
  by_cases h1 : n < S.size
  rotate_left
  · rw [if_neg (fun h => by
      have hnone : (bl S)[n]? = none := List.getElem?_eq_none (by rw [bl_len]; omega)
      rcases h.2 with h | h <;> rw [hnone] at h <;> cases h)] at hX
    subst hX
    have g1 : ¬ (n : Int) < (S.size : Int) := by omega
    clear h0 h1 hn hle
    go_enter Tryz.func123, Tryz.ntmps123
    go_wp2_with (go_at_call 164; go_loud (refine (C1 _).mono ?_; rintro e w1 ⟨rfl, hb⟩; have B1 := Lib.hid hb; clear hb))
    go_ret
    exact ⟨rfl, B1.out⟩
  have g1 : (n : Int) < (S.size : Int) := by omega
  rw [bl_at S n h1] at hX
  have hsz : (S.extract (n + 1) S.size).size ≤ 1000 := by
    rw [← bl_len, bl_cut, List.length_take, List.length_drop, bl_len]; omega
  have hcut : bl (S.extract (n + 1) S.size) = (bl S).drop (n + 1) := by
    rw [bl_cut, List.take_of_length_le (by rw [List.length_drop, bl_len]; exact Nat.le_refl _)]
  have C2 := fun w => count_any (S.extract (n + 1) S.size) hsz w
  have hle2 := cnt_le ((bl S).drop (n + 1))
  rw [List.length_drop, bl_len] at hle2
  rw [hcut] at C2
  generalize cnt ((bl S).drop (n + 1)) = m at *
  have mb : (m : Int) ≤ (S.size : Int) := by omega
  have mb2 : (n : Int) + 1 + (m : Int) ≤ 1000 := by omega
  clear hsz hcut hle2 hle hn h0
  by_cases hc : (S[n].toNat : Int) = 46
  · rw [if_pos ⟨by omega, .inl (by rw [(byte_eq S[n] 46).1 hc])⟩] at hX
    by_cases hm : 0 < m
    · rw [if_pos hm] at hX
      have HX := Lib.hid (show (n : Int) + 1 + (m : Int) = (X : Int) by omega)
      have gm : (0 : Int) < (m : Int) := by omega
      clear hm hX
      go_enter Tryz.func123, Tryz.ntmps123
      go_wp2_with (first
        | (go_at_call 164; ((with_reducible refine (C2 _).mono ?_); rintro e w2 ⟨rfl, hb⟩; have B2 := Lib.hid (btrans B1.out hb); clear hb))
        | (go_at_call 164; ((with_reducible refine (C1 _).mono ?_); rintro e w1 ⟨rfl, hb⟩; have B1 := Lib.hid hb; clear hb)))
      go_ret
      exact ⟨by rw [← HX.out]; rfl, B2.out⟩
    · rw [if_neg hm] at hX
      subst hX
      have gm : ¬ (0 : Int) < (m : Int) := by omega
      clear hm
      go_enter Tryz.func123, Tryz.ntmps123
      go_wp2_with (first
        | (go_at_call 164; ((with_reducible refine (C2 _).mono ?_); rintro e w2 ⟨rfl, hb⟩; have B2 := Lib.hid (btrans B1.out hb); clear hb))
        | (go_at_call 164; ((with_reducible refine (C1 _).mono ?_); rintro e w1 ⟨rfl, hb⟩; have B1 := Lib.hid hb; clear hb)))
      go_ret
      exact ⟨rfl, B2.out⟩
  · by_cases hc2 : (S[n].toNat : Int) = 47
    · rw [if_pos ⟨by omega, .inr (by rw [(byte_eq S[n] 47).1 hc2])⟩] at hX
      by_cases hm : 0 < m
      · rw [if_pos hm] at hX
        have HX := Lib.hid (show (n : Int) + 1 + (m : Int) = (X : Int) by omega)
        have gm : (0 : Int) < (m : Int) := by omega
        clear hm hX
        go_enter Tryz.func123, Tryz.ntmps123
        go_wp2_with (first
          | (go_at_call 164; ((with_reducible refine (C2 _).mono ?_); rintro e w2 ⟨rfl, hb⟩; have B2 := Lib.hid (btrans B1.out hb); clear hb))
          | (go_at_call 164; ((with_reducible refine (C1 _).mono ?_); rintro e w1 ⟨rfl, hb⟩; have B1 := Lib.hid hb; clear hb)))
        go_ret
        exact ⟨by rw [← HX.out]; rfl, B2.out⟩
      · rw [if_neg hm] at hX
        subst hX
        have gm : ¬ (0 : Int) < (m : Int) := by omega
        clear hm
        go_enter Tryz.func123, Tryz.ntmps123
        go_wp2_with (first
          | (go_at_call 164; ((with_reducible refine (C2 _).mono ?_); rintro e w2 ⟨rfl, hb⟩; have B2 := Lib.hid (btrans B1.out hb); clear hb))
          | (go_at_call 164; ((with_reducible refine (C1 _).mono ?_); rintro e w1 ⟨rfl, hb⟩; have B1 := Lib.hid hb; clear hb)))
        go_ret
        exact ⟨rfl, B2.out⟩
    · rw [if_neg (fun h => by
        rcases h.2 with h | h
        · injection h with h; exact hc (by rw [h]; rfl)
        · injection h with h; exact hc2 (by rw [h]; rfl))] at hX
      subst hX
      clear C2
      have hc3 : ((S[n].toNat : Int) == 46) = false := by rw [beq_eq_false_iff_ne]; exact hc
      have hc4 : ((S[n].toNat : Int) == 47) = false := by rw [beq_eq_false_iff_ne]; exact hc2
      go_enter Tryz.func123, Tryz.ntmps123
      go_wp2_with (first
        | (go_at_call 164; ((with_reducible refine (C2 _).mono ?_); rintro e w2 ⟨rfl, hb⟩; have B2 := Lib.hid (btrans B1.out hb); clear hb))
        | (go_at_call 164; ((with_reducible refine (C1 _).mono ?_); rintro e w1 ⟨rfl, hb⟩; have B1 := Lib.hid hb; clear hb)))
      go_ret
      exact ⟨rfl, B1.out⟩

/-- A letter. -/
def isL (c : UInt8) : Bool := (decide (97 ≤ c.toNat) && decide (c.toNat ≤ 122)) || (decide (65 ≤ c.toNat) && decide (c.toNat ≤ 90))
/-- How many letters a text begins with. -/
def wrd (l : List UInt8) : Nat := (l.takeWhile isL).length
theorem tw_stop {p : UInt8 → Bool} : ∀ {l : List UInt8} {k : Nat}, (l.take k).all p = true → (∀ c, l[k]? = some c → p c = false) → k ≤ l.length → (l.takeWhile p).length = k
  | [], 0, _, _, _ => rfl
  | c :: l, 0, _, h, _ => by rw [List.takeWhile_cons, if_neg (by rw [h c rfl]; decide)]; rfl
  | [], k + 1, _, _, hk => absurd hk (by simp)
  | c :: l, k + 1, h, h2, hk => by
    rw [List.take_succ_cons, List.all_cons, Bool.and_eq_true] at h
    rw [List.takeWhile_cons, if_pos h.1, List.length_cons, tw_stop h.2 (fun d hd => h2 d hd) (by simpa using hk)]
theorem isL_bytes (c : UInt8) : isL c = true ↔ ((97 : Int) ≤ (c.toNat : Int) ∧ (c.toNat : Int) ≤ 122) ∨ ((65 : Int) ≤ (c.toNat : Int) ∧ (c.toNat : Int) ≤ 90) := by
  unfold isL
  rw [Bool.or_eq_true, Bool.and_eq_true, Bool.and_eq_true, decide_eq_true_iff, decide_eq_true_iff, decide_eq_true_iff, decide_eq_true_iff]
  omega

set_option maxRecDepth 100000 in
set_option maxHeartbeats 3200000 in
theorem word_any (S : ByteArray) (hs : S.size ≤ 1000) (w : World) : Calls Tryz.prog 124 #[.string S] w fun e w' => e = .returned (.int .i64 (wrd (bl S))) ∧ w = w' := by
  have sb : (S.size : Int) ≤ 1000 := by omega
  go_enter Tryz.func124, Tryz.ntmps124
  go_wp2
  go_loopw [3] (fun i wr => ∃ k : Nat, k ≤ S.size ∧ i = .int .i64 (k : Int) ∧ w = wr ∧ Hid (((bl S).take k).all isL = true)) (fun i _ => (S.size - intOf i).toNat)
  case atStart => exact ⟨0, Nat.zero_le _, rfl, rfl, rfl⟩
  case round =>
    obtain ⟨k, hk, rfl, rfl, hA⟩ := hrel
    by_cases hk0 : k = S.size
    · subst hk0
      have HW := Lib.hid (show wrd (bl S) = S.size from tw_stop hA.out (fun c hc => by rw [List.getElem?_eq_none (by rw [bl_len]; exact Nat.le_refl _)] at hc; cases hc) (by rw [bl_len]; exact Nat.le_refl _))
      clear hA
      go_wp2
      go_ret
      exact ⟨by rw [HW.out]; rfl, rfl⟩
    · have hlt : k < S.size := by omega
      have hi : (k : Int) < (S.size : Int) := by omega
      have hLB := isL_bytes S[k]
      have HA := Lib.hid (show isL S[k] = true → ((bl S).take (k + 1)).all isL = true from fun h => by rw [bl_take S k hlt, List.all_append, hA.out]; simp [h])
      have HW := Lib.hid (show isL S[k] = false → wrd (bl S) = k from fun h => tw_stop hA.out (fun c hc => by rw [bl_at S k hlt] at hc; injection hc with hc; rw [← hc]; exact h) (by rw [bl_len]; exact hk))
      clear hA hk0
      generalize isL S[k] = b at *
      by_cases h1 : (97 : Int) ≤ (S[k].toNat : Int)
      · by_cases h2 : (S[k].toNat : Int) ≤ 122
        · have HA2 := Lib.hid (HA.out (hLB.2 (.inl ⟨h1, h2⟩)))
          clear HA HW hLB
          go_wp2
          go_roundw
          case rel => exact ⟨k + 1, by omega, by go_num, by first | rfl | trivial, HA2⟩
          case measure => simp only [intOf]; omega
        · have h3 : ¬ (S[k].toNat : Int) ≤ 90 := by omega
          have h4 : (65 : Int) ≤ (S[k].toNat : Int) := by omega
          have HW2 := Lib.hid (HW.out (by cases b; rfl; (have := hLB.1 rfl; omega)))
          clear HA HW hLB
          go_wp2
          go_ret
          exact ⟨by rw [HW2.out]; rfl, rfl⟩
      · by_cases h2 : (65 : Int) ≤ (S[k].toNat : Int)
        · by_cases h3 : (S[k].toNat : Int) ≤ 90
          · have HA2 := Lib.hid (HA.out (hLB.2 (.inr ⟨h2, h3⟩)))
            clear HA HW hLB
            go_wp2
            go_roundw
            case rel => exact ⟨k + 1, by omega, by go_num, by first | rfl | trivial, HA2⟩
            case measure => simp only [intOf]; omega
          · have HW2 := Lib.hid (HW.out (by cases b; rfl; (have := hLB.1 rfl; omega)))
            clear HA HW hLB
            go_wp2
            go_ret
            exact ⟨by rw [HW2.out]; rfl, rfl⟩
        · have HW2 := Lib.hid (HW.out (by cases b; rfl; (have := hLB.1 rfl; omega)))
          clear HA HW hLB
          go_wp2
          go_ret
          exact ⟨by rw [HW2.out]; rfl, rfl⟩

/-- The factor of a prefix. -/
def pfx (c : UInt8) : Option (List UInt8) :=
  if c = 110 then some [49, 47, 49, 48, 48, 48, 48, 48, 48, 48, 48, 48] else if c = 117 then some [49, 47, 49, 48, 48, 48, 48, 48, 48] else if c = 109 then some [49, 47, 49, 48, 48, 48] else
  if c = 99 then some [49, 47, 49, 48, 48] else if c = 100 then some [49, 47, 49, 48] else if c = 104 then some [49, 48, 48] else if c = 107 then some [49, 48, 48, 48] else
  if c = 77 then some [49, 48, 48, 48, 48, 48, 48] else if c = 71 then some [49, 48, 48, 48, 48, 48, 48, 48, 48, 48] else none

set_option maxRecDepth 100000 in
set_option maxHeartbeats 3200000 in
theorem prefix_any (c : UInt8) (w : World) : Calls Tryz.prog 167 #[.int .u8 (c.toNat : Int)] w fun e w' => e = .returned (.tuple #[.string ⟨((pfx c).getD []).toArray⟩, .bool (pfx c).isSome]) ∧ w = w' := by
  obtain ⟨X, hX⟩ : ∃ X, pfx c = X := ⟨_, rfl⟩
  rw [hX]
  unfold pfx at hX
  by_cases h110 : (c.toNat : Int) = 110
  · rw [if_pos ((byte_eq c 110).1 h110)] at hX
    subst hX
    go_enter Tryz.func167, Tryz.ntmps167
    go_wp2
    go_ret2
    exact ⟨rfl, rfl⟩
  rw [if_neg (fun e => h110 ((byte_eq c 110).2 e))] at hX
  by_cases h117 : (c.toNat : Int) = 117
  · rw [if_pos ((byte_eq c 117).1 h117)] at hX
    subst hX
    go_enter Tryz.func167, Tryz.ntmps167
    go_wp2
    go_ret2
    exact ⟨rfl, rfl⟩
  rw [if_neg (fun e => h117 ((byte_eq c 117).2 e))] at hX
  by_cases h109 : (c.toNat : Int) = 109
  · rw [if_pos ((byte_eq c 109).1 h109)] at hX
    subst hX
    go_enter Tryz.func167, Tryz.ntmps167
    go_wp2
    go_ret2
    exact ⟨rfl, rfl⟩
  rw [if_neg (fun e => h109 ((byte_eq c 109).2 e))] at hX
  by_cases h99 : (c.toNat : Int) = 99
  · rw [if_pos ((byte_eq c 99).1 h99)] at hX
    subst hX
    go_enter Tryz.func167, Tryz.ntmps167
    go_wp2
    go_ret2
    exact ⟨rfl, rfl⟩
  rw [if_neg (fun e => h99 ((byte_eq c 99).2 e))] at hX
  by_cases h100 : (c.toNat : Int) = 100
  · rw [if_pos ((byte_eq c 100).1 h100)] at hX
    subst hX
    go_enter Tryz.func167, Tryz.ntmps167
    go_wp2
    go_ret2
    exact ⟨rfl, rfl⟩
  rw [if_neg (fun e => h100 ((byte_eq c 100).2 e))] at hX
  by_cases h104 : (c.toNat : Int) = 104
  · rw [if_pos ((byte_eq c 104).1 h104)] at hX
    subst hX
    go_enter Tryz.func167, Tryz.ntmps167
    go_wp2
    go_ret2
    exact ⟨rfl, rfl⟩
  rw [if_neg (fun e => h104 ((byte_eq c 104).2 e))] at hX
  by_cases h107 : (c.toNat : Int) = 107
  · rw [if_pos ((byte_eq c 107).1 h107)] at hX
    subst hX
    go_enter Tryz.func167, Tryz.ntmps167
    go_wp2
    go_ret2
    exact ⟨rfl, rfl⟩
  rw [if_neg (fun e => h107 ((byte_eq c 107).2 e))] at hX
  by_cases h77 : (c.toNat : Int) = 77
  · rw [if_pos ((byte_eq c 77).1 h77)] at hX
    subst hX
    go_enter Tryz.func167, Tryz.ntmps167
    go_wp2
    go_ret2
    exact ⟨rfl, rfl⟩
  rw [if_neg (fun e => h77 ((byte_eq c 77).2 e))] at hX
  by_cases h71 : (c.toNat : Int) = 71
  · rw [if_pos ((byte_eq c 71).1 h71)] at hX
    subst hX
    go_enter Tryz.func167, Tryz.ntmps167
    go_wp2
    go_ret2
    exact ⟨rfl, rfl⟩
  rw [if_neg (fun e => h71 ((byte_eq c 71).2 e))] at hX
  subst hX
  go_enter Tryz.func167, Tryz.ntmps167
  go_wp2
  go_ret2
  exact ⟨rfl, rfl⟩
end Go.Proofs.YtinoipjblkidfaaGreatDoor

/- Symbols of units, plainly: the table, what is found there, the number a text of a unit begins with. -/
namespace Go.Proofs.YtinoipjblkidfaaGreatDoor
open Go.RowKit Go.Proofs.YtinoipjblkidfaaGreatDoor.Dg Go.Proofs.YtinoipjblkidfaaGreatDoor.Q Go.Proofs.YtinoipjblkidfaaGreatDoor.Num Go.Proofs.YtinoipjblkidfaaGreatDoor.Str

/-- A symbol. -/
structure Sy where
  (name fac off : List UInt8)
  pre : Bool
  p : P7
deriving DecidableEq
def Sy.none : Sy := ⟨[], [], [], false, ⟨0, 0, 0, 0, 0, 0, 0⟩⟩
def Sy.L (s : Sy) : List Value := [.string ⟨s.name.toArray⟩, .string ⟨s.fac.toArray⟩, .string ⟨s.off.toArray⟩, .bool s.pre, .int .i64 s.p.a, .int .i64 s.p.b, .int .i64 s.p.c, .int .i64 s.p.d, .int .i64 s.p.e, .int .i64 s.p.f, .int .i64 s.p.g]
def Sy.v (s : Sy) : Value := .agg s.L.toArray
def syms : List Sy := [
  ⟨[109], [49], [48], true, ⟨1, 0, 0, 0, 0, 0, 0⟩⟩,
  ⟨[103], [49, 47, 49, 48, 48, 48], [48], true, ⟨0, 1, 0, 0, 0, 0, 0⟩⟩,
  ⟨[115], [49], [48], true, ⟨0, 0, 1, 0, 0, 0, 0⟩⟩,
  ⟨[75], [49], [48], true, ⟨0, 0, 0, 1, 0, 0, 0⟩⟩,
  ⟨[109, 111, 108], [49], [48], true, ⟨0, 0, 0, 0, 1, 0, 0⟩⟩,
  ⟨[65], [49], [48], true, ⟨0, 0, 0, 0, 0, 1, 0⟩⟩,
  ⟨[99, 100], [49], [48], true, ⟨0, 0, 0, 0, 0, 0, 1⟩⟩,
  ⟨[109, 105, 110], [54, 48], [48], false, ⟨0, 0, 1, 0, 0, 0, 0⟩⟩,
  ⟨[104], [51, 54, 48, 48], [48], false, ⟨0, 0, 1, 0, 0, 0, 0⟩⟩,
  ⟨[100], [56, 54, 52, 48, 48], [48], false, ⟨0, 0, 1, 0, 0, 0, 0⟩⟩,
  ⟨[116], [49, 48, 48, 48], [48], true, ⟨0, 1, 0, 0, 0, 0, 0⟩⟩,
  ⟨[76], [49, 47, 49, 48, 48, 48], [48], true, ⟨3, 0, 0, 0, 0, 0, 0⟩⟩,
  ⟨[72, 122], [49], [48], true, ⟨0, 0, -1, 0, 0, 0, 0⟩⟩,
  ⟨[78], [49], [48], true, ⟨1, 1, -2, 0, 0, 0, 0⟩⟩,
  ⟨[80, 97], [49], [48], true, ⟨-1, 1, -2, 0, 0, 0, 0⟩⟩,
  ⟨[74], [49], [48], true, ⟨2, 1, -2, 0, 0, 0, 0⟩⟩,
  ⟨[87], [49], [48], true, ⟨2, 1, -3, 0, 0, 0, 0⟩⟩,
  ⟨[98, 97, 114], [49, 48, 48, 48, 48, 48], [48], true, ⟨-1, 1, -2, 0, 0, 0, 0⟩⟩,
  ⟨[100, 101, 103, 67], [49], [53, 52, 54, 51, 47, 50, 48], false, ⟨0, 0, 0, 1, 0, 0, 0⟩⟩,
  ⟨[100, 101, 103, 70], [53, 47, 57], [52, 53, 57, 54, 55, 47, 49, 56, 48], false, ⟨0, 0, 0, 1, 0, 0, 0⟩⟩]
/-- The symbol of a word, with its prefix. -/
def sfind (l : List UInt8) : Option Sy :=
  match syms.find? (fun s => s.name == l) with
  | some s => some s
  | none => if l.length < 2 then none else match pfx (l.headD 0) with
    | none => none
    | some b => (syms.find? (fun s => s.pre && s.name == l.tail)).map fun s => { s with fac := bin dMul s.fac b }
end Go.Proofs.YtinoipjblkidfaaGreatDoor

/- The text of a unit, plainly: exponents, factors, the unit. -/
namespace Go.Proofs.YtinoipjblkidfaaGreatDoor
open Go.RowKit Go.Proofs.YtinoipjblkidfaaGreatDoor.Dg Go.Proofs.YtinoipjblkidfaaGreatDoor.Q Go.Proofs.YtinoipjblkidfaaGreatDoor.Num Go.Proofs.YtinoipjblkidfaaGreatDoor.Str

/-- An exponent, and how long it is. -/
def pexp (l : List UInt8) : Option (Int × Nat) :=
  if cnt (body l) = 0 then none else
  let t := ((body l).take (cnt (body l))).dropWhile (· == 48)
  let n : Nat := if t.length ≤ 2 then val t else 1000
  some (if isNeg l = true then (-(n : Int), cnt (body l) + 1) else ((n : Int), cnt (body l)))
/-- A factor. -/
structure PF where
  s : Sy
  exp : Int
  bare : Bool
deriving DecidableEq
def PF.L (x : PF) : List Value := x.s.L ++ [.int .i64 x.exp, .bool x.bare]
/-- The first factor of a text, and what is left. -/
def pstep (sg : Int) (l : List UInt8) : Option (PF × List UInt8) :=
  if 0 < numb l then match frm (l.take (numb l)) with
    | some q => if short q = true ∧ q ≠ 0 then some (⟨⟨[], txt q, [48], false, ⟨0, 0, 0, 0, 0, 0, 0⟩⟩, sg, decide (sg = 1)⟩, l.drop (numb l)) else none
    | none => none
  else match sfind (l.take (wrd l)) with
    | none => none
    | some y => if (l.drop (wrd l)).head? = some 94 then match pexp (l.drop (wrd l)).tail with
        | none => none
        | some (e, n) => some (⟨y, sg * e, false⟩, (l.drop (wrd l)).tail.drop n)
      else some (⟨y, sg, decide (sg = 1)⟩, l.drop (wrd l))
/-- The factors of a text, behind those that were read. -/
def pfac : Nat → Int → List PF → List UInt8 → Option (List PF)
  | 0, _, _, _ => none
  | k + 1, sg, acc, l => match pstep sg l with
    | none => none
    | some (x, []) => some (acc ++ [x])
    | some (x, c :: r) => if c = 32 then pfac k 1 (acc ++ [x]) r else if c = 47 then pfac k (-1) (acc ++ [x]) r else none
/-- The product of factors. -/
def pprod (xs : List PF) : Rat := xs.foldl (fun a x => a * ((num? x.s.fac).getD 0) ^ x.exp) 1
def psum (xs : List PF) : P7 := xs.foldl (fun a x => a.plus x.exp x.s.p) ⟨0, 0, 0, 0, 0, 0, 0⟩
/-- The unit of factors. -/
def pof (xs : List PF) : Un × Int :=
  if xs.any (fun x => x.s.off != [48] && (decide (1 < xs.length) || !x.bare)) = true then (Un.none, 10)
  else if 12 < xs.length then (Un.none, 4)
  else if xs.all (fun x => wi x.exp) = true ∧ vU (put (pprod xs)) ((xs.head?.map (·.s.off)).getD []) (psum xs) = true then (⟨put (pprod xs), (xs.head?.map (·.s.off)).getD [], psum xs⟩, 0)
  else (Un.none, 4)
/-- What ParseUnit gives. -/
def punit (l : List UInt8) : Un × Int := if 1000 < l.length then (Un.none, 4) else match pfac (l.length + 1) 1 [] l with
  | none => (Un.none, 10)
  | some xs => pof xs
end Go.Proofs.YtinoipjblkidfaaGreatDoor

/- Texts of units: exponent of the program. -/
namespace Go.Proofs.YtinoipjblkidfaaGreatDoor
open Go.RowKit Go.Proofs.YtinoipjblkidfaaGreatDoor.Dg Go.Proofs.YtinoipjblkidfaaGreatDoor.Q Go.Proofs.YtinoipjblkidfaaGreatDoor.Num Go.Proofs.YtinoipjblkidfaaGreatDoor.Str

theorem trimzero_any (S : ByteArray) (w : World) :
    Calls Tryz.prog 165 #[.string S, .string ⟨#[48]⟩] w fun e w' => e = .returned (.string ⟨((bl S).dropWhile (· == 48)).toArray⟩) ∧ Below w.heap.size w w' :=
  (Any.strings_TrimLeft_laid Tryz.lays161 Tryz.infoSetL S ⟨#[48]⟩ w (by decide) (ascii_of_all (by decide))).mono fun e w' ⟨h1, h2⟩ => ⟨by
    rw [h1, show (S.data.toList : List UInt8) = bl S from rfl, show (⟨#[48]⟩ : ByteArray).data.toList = [48] from rfl]
    have : Lib.trimLeftS (bl S) [48] = (bl S).dropWhile (· == 48) := by
      unfold Lib.trimLeftS
      congr 1
      funext c
      rw [Bool.eq_iff_iff]
      simp
    rw [this], h2⟩
theorem dropWhile_len {p : UInt8 → Bool} (l : List UInt8) : (l.dropWhile p).length ≤ l.length := by
  induction l with
  | nil => simp
  | cons a l ih => rw [List.dropWhile_cons]; split <;> simp; omega
theorem allD_dw {p : UInt8 → Bool} {l : List UInt8} (h : allD l = true) : allD (l.dropWhile p) = true := by
  unfold allD at *
  rw [List.all_eq_true] at *
  exact fun x hx => h x (List.dropWhile_subset _ hx)
theorem allD_tw (l : List UInt8) : allD (l.take (cnt l)) = true := by
  unfold allD cnt
  have : l.take (l.takeWhile isD).length = l.takeWhile isD := by
    have h := List.take_left (l₁ := l.takeWhile isD) (l₂ := l.dropWhile isD)
    rw [List.takeWhile_append_dropWhile] at h
    exact h
  rw [this]
  exact List.all_takeWhile

/-- What exponent gives. -/
def expV (o : Option (Int × Nat)) : Value := match o with
  | some (n, k) => .tuple #[.int .i64 n, .int .i64 (k : Int), .bool true]
  | none => .tuple #[.int .i64 0, .int .i64 0, .bool false]
set_option maxRecDepth 100000 in
set_option maxHeartbeats 6400000 in
theorem exponent_any (S : ByteArray) (hs : S.size ≤ 1000) (w : World) (hw : Wf w) : Calls Tryz.prog 127 #[.string S] w fun e w' => e = .returned (expV (pexp (bl S))) ∧ Below w.heap.size w w' := by
  have CN := fun w => cutneg_fixed S w
  have hRs : (body (bl S)).length ≤ 1000 := Nat.le_trans (body_len _) (by rw [bl_len]; exact hs)
  obtain ⟨X, hX⟩ : ∃ X, pexp (bl S) = X := ⟨_, rfl⟩
  rw [hX]
  unfold pexp at hX
  generalize isNeg (bl S) = neg at *
  obtain ⟨R, hR⟩ : ∃ R : ByteArray, (⟨(body (bl S)).toArray⟩ : ByteArray) = R := ⟨_, rfl⟩
  have hb : body (bl S) = bl R := by rw [← hR]; rfl
  rw [hR] at CN
  rw [hb] at hRs hX
  clear hb hR
  have hn := cnt_le (bl R)
  have T1 := fun w => trimleft_any R w
  have T2 := fun w => trimzero_any (R.extract 0 (cnt (bl R))) w
  have hcut : bl (R.extract 0 (cnt (bl R))) = (bl R).take (cnt (bl R)) := by rw [bl_cut]; simp
  rw [hcut] at T2
  have hZ : ((bl R).take (cnt (bl R))).dropWhile (· == 48) = ((bl R).take (cnt (bl R))).dropWhile (· == 48) := rfl
  have hZl := dropWhile_len (p := (· == 48)) ((bl R).take (cnt (bl R)))
  have hZd := allD_dw (p := (· == 48)) (allD_tw (bl R))
  rw [List.length_take] at hZl
  rw [bl_len] at hn hRs
  generalize ((bl R).take (cnt (bl R))).dropWhile (· == 48) = z at *
  generalize hc : cnt (bl R) = n at *
  clear hZ hc hcut
  obtain ⟨Z, hZ⟩ : ∃ Z : ByteArray, (⟨z.toArray⟩ : ByteArray) = Z := ⟨_, rfl⟩
  have hzb : z = bl Z := by rw [← hZ]; rfl
  rw [hZ] at T2
  dsimp only at hX
  rw [hzb] at hX hZl hZd
  rw [bl_len] at hX hZl
  clear hzb hZ
  have sb : (R.size : Int) ≤ 1000 := by omega
  have nb : (n : Int) ≤ (R.size : Int) := by omega
  have zb : (Z.size : Int) ≤ 1000 := by omega
  by_cases h0 : n = 0
  · rw [if_pos h0] at hX
    subst h0 hX
    clear T2 hZd hZl
    go_enter Tryz.func127, Tryz.ntmps127
    go_wp2_with (first
      | (go_at_call 126; go_loud (refine (CN _).mono ?_; rintro e w1 ⟨rfl, rfl⟩))
      | (go_at_call 165; go_loud (refine (T1 _).mono ?_; rintro e w1 ⟨T1, rfl, hT, hb⟩; have B1 := Lib.hid hb; clear hb)))
    go_ret3
    exact ⟨rfl, B1.out⟩
  rw [if_neg h0] at hX
  have hA := fun w hw => (atoi_any (⟨#[48]⟩ ++ Z) (by rw [ByteArray.size_append]; show 1 + _ ≤ _; omega) w hw)
  have h0' : ¬ (n : Int) = 0 := by omega
  have ext : ∀ T : ByteArray, (T.size : Int) = (R.size : Int) - (n : Int) → (R.size : Int) - (T.size : Int) = (n : Int) := fun T h => by omega
  by_cases h2 : Z.size ≤ 2
  · rw [if_pos h2] at hX
    have h2' : (Z.size : Int) ≤ 2 := by omega
    have hv : val (bl (⟨#[48]⟩ ++ Z)) = val (bl Z) := by
      rw [bl_app, show bl ⟨#[48]⟩ = [48] from rfl, val_append]
      show 0 * _ + _ = _
      omega
    have AT := fun w hw => (hA w hw).mono fun e w' (⟨v, ev, h1, _, _, h3, _, h4⟩ : AtoiQ _ _ _ _) => (show ∃ ev, e = Ending.returned (.tuple #[.int .i64 (val (bl Z) : Int), ev]) ∧ Below w.heap.size w w' from ⟨ev, by rw [h1, h3 (by rw [bl_app, allD_append, hZd]; rfl) (by rw [bl_app]; simp [show bl ⟨#[48]⟩ = [48] from rfl]) (by rw [ByteArray.size_append]; show 1 + _ ≤ _; omega), hv], h4⟩)
    have hval : val (bl Z) ≤ 99 := by
      have := val_lt (bl Z) hZd
      rw [bl_len] at this
      have h3 : (10 : Nat) ^ Z.size ≤ 10 ^ 2 := Nat.pow_le_pow_right (by decide) h2
      omega
    have hvb : (val (bl Z) : Int) ≤ 99 := by omega
    clear hA hv hZd hZl hval
    generalize val (bl Z) = v at *
    have HX := Lib.hid hX
    clear hX h0 h2
    cases neg
    all_goals
      go_enter Tryz.func127, Tryz.ntmps127
      go_wp2_with (first
        | (go_at_call 86; go_loud (refine (AT _ (hw.up B2.out)).mono ?_; rintro e w3 ⟨ev, rfl, hb⟩; have B3 := Lib.hid (btrans B2.out hb); clear hb))
        | (go_at_call 126; go_loud (refine (CN _).mono ?_; rintro e w1 ⟨rfl, rfl⟩))
        | (go_at_call 165; ((with_reducible refine (T1 _).mono ?_); rintro e w1 ⟨T3, rfl, hT, hb⟩; have B1 := Lib.hid hb; have e1 := ext _ hT; clear hb hT))
        | (go_at_call 165; ((with_reducible refine (T2 _).mono ?_); rintro e w2 ⟨rfl, hb⟩; have B2 := Lib.hid (btrans B1.out hb); clear hb)))
      go_ret3
      exact ⟨by rw [← HX.out]; rfl, B3.out⟩
  · rw [if_neg h2] at hX
    have h2' : ¬ (Z.size : Int) ≤ 2 := by omega
    have HX := Lib.hid hX
    clear hX h0 h2 hA hZd hZl
    cases neg
    all_goals
      go_enter Tryz.func127, Tryz.ntmps127
      go_wp2_with (first
        | (go_at_call 126; go_loud (refine (CN _).mono ?_; rintro e w1 ⟨rfl, rfl⟩))
        | (go_at_call 165; ((with_reducible refine (T1 _).mono ?_); rintro e w1 ⟨T3, rfl, hT, hb⟩; have B1 := Lib.hid hb; have e1 := ext _ hT; clear hb hT))
        | (go_at_call 165; ((with_reducible refine (T2 _).mono ?_); rintro e w2 ⟨rfl, hb⟩; have B2 := Lib.hid (btrans B1.out hb); clear hb)))
      go_ret3
      exact ⟨by rw [← HX.out]; rfl, B2.out⟩
end Go.Proofs.YtinoipjblkidfaaGreatDoor
