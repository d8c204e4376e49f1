/- Equality of units, as the model reckons it. -/
import Derived.Test.YthjnmnepjeegiaaGreatDoorG7
import Derived.ChangeKeysEq
/- Equality of units, as the model reckons it. -/
namespace Go.Proofs.YthjnmnepjeegiaaGreatDoor
open Go.RowKit Go.Proofs.YthjnmnepjeegiaaGreatDoor.Dg Go.Proofs.YthjnmnepjeegiaaGreatDoor.Q Go.Proofs.YthjnmnepjeegiaaGreatDoor.Num

theorem eq7_items (d : Nat) (xs ys : Array Value) (X Y : Nat → Int) (w : World) (is : List Nat) (hx : ∀ i ∈ is, xs[i]? = some (.int .i64 (X i))) (hy : ∀ i ∈ is, ys[i]? = some (.int .i64 (Y i))) :
    (Op.eqItems (d + 1) 3 1 xs ys is).run Tryz.prog w = .ok (is.all fun i => X i == Y i) w := by
  induction is with
  | nil => simp [Op.eqItems]
  | cons i is ih =>
    have h := ih (fun j hj => hx j (List.mem_cons_of_mem _ hj)) (fun j hj => hy j (List.mem_cons_of_mem _ hj))
    have p1 := run_part_plain (P := Tryz.prog) w (e := 3) (by kernel_rfl) (hx i (List.mem_cons_self ..))
    have p2 := run_part_plain (P := Tryz.prog) w (e := 3) (by kernel_rfl) (hy i (List.mem_cons_self ..))
    have p3 := run_equalIn_int (P := Tryz.prog) w d 3 .i64 .i64 (X i) (Y i) (by kernel_rfl)
    simp only [Op.eqItems, Sem.run_bind, Nat.mul_one, p1, p2, p3, Result.andThen_ok, List.all_cons]
    cases X i == Y i
    · simp
    · simpa using h
def P7.at (p : P7) (i : Nat) : Int := p.l.getD i 0
theorem P7.eq_all (p q : P7) : ((List.range 7).all fun i => p.at i == q.at i) = decide (p = q) := by
  rw [Bool.eq_iff_iff, decide_eq_true_iff]
  constructor
  · intro h
    have h2 : ∀ i, i < 7 → p.at i = q.at i := fun i hi => by simpa using List.all_eq_true.1 h i (List.mem_range.2 hi)
    cases p; cases q
    simp only [P7.mk.injEq]
    exact ⟨h2 0 (by decide), h2 1 (by decide), h2 2 (by decide), h2 3 (by decide), h2 4 (by decide), h2 5 (by decide), h2 6 (by decide)⟩
  · rintro rfl
    simp
theorem P7.C_at (p : P7) (i : Nat) (hi : i < 7) : p.C[i]? = some (.int .i64 (p.at i)) := by
  rcases (show i = 0 ∨ i = 1 ∨ i = 2 ∨ i = 3 ∨ i = 4 ∨ i = 5 ∨ i = 6 by omega) with rfl | rfl | rfl | rfl | rfl | rfl | rfl <;> rfl
theorem eq7 (d : Nat) (p q : P7) (w : World) : (Op.equalIn (d + 2) 22 (.agg p.C) (.agg q.C)).run Tryz.prog w = .ok (decide (p = q)) w := by
  obtain ⟨i, hi⟩ := Option.isSome_iff_exists.1 (show (Tryz.prog.info? 3).isSome = true by kernel_rfl)
  rw [run_equalIn_array (P := Tryz.prog) w (d + 1) (n := 7) (e := 3) (hu := by kernel_rfl) (hi := hi), show Tryz.prog.cellsOf 3 = 1 by kernel_rfl, eq7_items d _ _ p.at q.at w _ (fun i hi => p.C_at i (List.mem_range.1 hi)) (fun i hi => q.C_at i (List.mem_range.1 hi)), P7.eq_all]
theorem part_str (xs : Array Value) (i : Nat) (S : ByteArray) (h : xs[i]? = some (.string S)) (w : World) : (part 9 xs i).run Tryz.prog w = .ok (.string S) w := run_part_plain (P := Tryz.prog) w (e := 9) (by kernel_rfl) h
theorem part_arr (F O : ByteArray) (p : P7) (w : World) : (part 22 (unC F O p) 2).run Tryz.prog w = .ok (.agg p.C) w := by
  have h2 : Tryz.prog.underlying 22 = some (.array 7 3) := by kernel_rfl
  simp [part, isAgg, run_underlying h2]
  rfl
theorem toList_eq (S T : ByteArray) : (S.toList == T.toList) = decide (bl S = bl T) := by rw [← eqS]; unfold bl; rw [ByteArray.toList_eq T]
theorem eqU (F O F' O' : ByteArray) (p q : P7) (w : World) : (Op.equal 24 (.agg (unC F O p)) (.agg (unC F' O' q))).run Tryz.prog w = .ok (decide (bl F = bl F' ∧ bl O = bl O' ∧ p = q)) w := by
  have hs : ∀ S T : ByteArray, (S.toList == T.toList) = decide (bl S = bl T) := fun S T => by rw [← eqS]; unfold bl; rw [ByteArray.toList_eq T]
  have hf : (Tryz.prog.fieldsOf 24).toList.map (fun f => (f.name == "_", f.type, f.offset)) = [(false, 9, 0), (false, 9, 1), (false, 22, 2)] := by kernel_rfl
  have q1 := run_equalIn_string (P := Tryz.prog) w 9998 9 F F' (by kernel_rfl)
  have q2 := run_equalIn_string (P := Tryz.prog) w 9998 9 O O' (by kernel_rfl)
  have q3 := eq7 9997 p q w
  unfold Op.equal Op.maxDepth
  rw [run_equalIn_struct (P := Tryz.prog) w 9999 _ _ _ (by kernel_rfl) (by kernel_rfl)]
  generalize (Tryz.prog.fieldsOf 24).toList = fs at hf
  rcases fs with _ | ⟨f1, _ | ⟨f2, _ | ⟨f3, _ | ⟨f4, r⟩⟩⟩⟩
  rotate_left 3
  · simp only [List.map_cons, List.map_nil, List.cons.injEq, Prod.mk.injEq, and_true, beq_eq_false_iff_ne, ne_eq] at hf
    obtain ⟨⟨a1, a2, a3⟩, ⟨b1, b2, b3⟩, c1, c2, c3⟩ := hf
    rw [hs] at q1 q2
    have q1 : (Op.equalIn 9999 9 (.string F) (.string F')).run Tryz.prog w = _ := q1
    have q2 : (Op.equalIn 9999 9 (.string O) (.string O')).run Tryz.prog w = _ := q2
    have q3 : (Op.equalIn 9999 22 (.agg p.C) (.agg q.C)).run Tryz.prog w = _ := q3
    have p1 := part_str (unC F O p) 0 F rfl
    have p2 := part_str (unC F' O' q) 0 F' rfl
    have p3 := part_str (unC F O p) 1 O rfl
    have p4 := part_str (unC F' O' q) 1 O' rfl
    have p5 := part_arr F O p
    have p6 := part_arr F' O' q
    rw [show decide (bl F = bl F' ∧ bl O = bl O' ∧ p = q) = (decide (bl F = bl F') && (decide (bl O = bl O') && decide (p = q))) by simp]
    generalize decide (bl F = bl F') = v1 at *
    generalize decide (bl O = bl O') = v2 at *
    generalize decide (p = q) = v3 at *
    simp only [Op.eqFields, a1, b1, c1, ne_eq, not_false_eq_true, if_true, Sem.run_bind, a2, b2, c2, a3, b3, c3, p1, p2, q1, Result.andThen_ok]
    cases v1
    · simp
    · simp only [Bool.not_true, Bool.false_eq_true, if_false, Sem.run_bind, p3, p4, q2, Result.andThen_ok]
      cases v2
      · simp
      · simp only [Bool.not_true, Bool.false_eq_true, if_false, Sem.run_bind, p5, p6, q3, Result.andThen_ok]
        cases v3 <;> simp
  all_goals simp at hf
end Go.Proofs.YthjnmnepjeegiaaGreatDoor
