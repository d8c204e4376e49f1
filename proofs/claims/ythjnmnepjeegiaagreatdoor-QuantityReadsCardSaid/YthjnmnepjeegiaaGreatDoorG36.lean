/- The reference's parser of units: ParseUnit. -/
import Derived.Test.YthjnmnepjeegiaaGreatDoorG35
import Derived.Test.YthjnmnepjeegiaaGreatDoorG33
import Derived.Test.YthjnmnepjeegiaaGreatDoorG10
/- The reference's parser of units: ParseUnit. -/
namespace Go.Proofs.YthjnmnepjeegiaaGreatDoor
open Go.RowKit Go.Proofs.YthjnmnepjeegiaaGreatDoor.Dg Go.Proofs.YthjnmnepjeegiaaGreatDoor.Q Go.Proofs.YthjnmnepjeegiaaGreatDoor.Num Go.Proofs.YthjnmnepjeegiaaGreatDoor.Str

theorem rstep_good {l r : List UInt8} {f : RF} (h : rstep l = some (f, r)) : 0 < f.num ∧ sz f.num ≤ 5 := by
  rcases step_same 1 l with ⟨x, f', rest, _, h2, h3⟩ | ⟨_, h2⟩
  · rw [h] at h2
    injection h2 with h2
    injection h2 with h2 _
    subst h2
    exact ⟨h3.2.1, num_sz h3.1⟩
  · rw [h] at h2; cases h2
theorem rfac_good : ∀ {k : Nat} {sg : Int} {acc : List (Int × RF)} {l : List UInt8} {fs : List (Int × RF)}, (sg = 1 ∨ sg = -1) → (∀ x ∈ acc, goodF x) → rfac k sg acc l = some fs → ∀ x ∈ fs, goodF x
  | 0, _, _, _, _, _, _, h => by cases h
  | k + 1, sg, acc, l, fs, hs, ha, h => by
    rw [rfac] at h
    cases hp : rstep l with
    | none => rw [hp] at h; cases h
    | some xr =>
      obtain ⟨x, r⟩ := xr
      rw [hp] at h
      have hg := rstep_good hp
      have ha2 : ∀ y ∈ acc ++ [(sg, x)], goodF y := fun y hy => by
        rcases List.mem_append.1 hy with hy | hy
        · exact ha y hy
        · rw [List.mem_singleton.1 hy]; exact ⟨hs, hg⟩
      cases r with
      | nil =>
        injection h with h
        subst h
        exact ha2
      | cons c r =>
        dsimp only at h
        split at h
        · exact rfac_good (.inl rfl) ha2 h
        · split at h
          · exact rfac_good (.inr rfl) ha2 h
          · cases h
def offF (fs : List (Int × RF)) (x : Int × RF) : Bool := x.2.off && (decide (1 < fs.length) || x.2.raised)
theorem rof_off {fs : List (Int × RF)} (h : fs.any (offF fs) = true) : rof fs = (Un.none, 10) := by
  unfold rof
  rw [if_pos (show fs.any (fun x => x.2.off && (decide (1 < fs.length) || x.2.raised)) = true from h)]
theorem rof_long {fs : List (Int × RF)} (h : fs.any (offF fs) = false) (h2 : 12 < fs.length) : rof fs = (Un.none, 4) := by
  unfold rof
  rw [if_neg (show ¬ fs.any (fun x => x.2.off && (decide (1 < fs.length) || x.2.raised)) = true from fun k => by rw [show fs.any (fun x => x.2.off && (decide (1 < fs.length) || x.2.raised)) = false from h] at k; cases k), if_pos h2]
theorem rof_exp {fs : List (Int × RF)} {k : Nat} {x : Int × RF} (h : fs.any (offF fs) = false) (h2 : ¬ 12 < fs.length) (hx : fs[k]? = some x) (he : wi x.2.exp = false) : rof fs = (Un.none, 4) := by
  unfold rof
  rw [if_neg (show ¬ fs.any (fun x => x.2.off && (decide (1 < fs.length) || x.2.raised)) = true from fun k => by rw [show fs.any (fun x => x.2.off && (decide (1 < fs.length) || x.2.raised)) = false from h] at k; cases k), if_neg h2, if_neg]
  intro ha
  have := List.all_eq_true.1 ha x (List.mem_of_getElem? hx)
  rw [he] at this
  cases this
theorem rof_end {fs : List (Int × RF)} (h : fs.any (offF fs) = false) (h2 : ¬ 12 < fs.length) (he : ∀ x ∈ fs, wi x.2.exp = true) : rof fs = gvU (rprodF fs) (rofsF fs) (rsumF fs) := by
  unfold rof
  rw [if_neg (show ¬ fs.any (fun x => x.2.off && (decide (1 < fs.length) || x.2.raised)) = true from fun k => by rw [show fs.any (fun x => x.2.off && (decide (1 < fs.length) || x.2.raised)) = false from h] at k; cases k), if_neg h2, if_pos (List.all_eq_true.2 he)]
/-- A result and the factors' row. -/
def PB (w wr : World) (gl : Nat) (xs : List Value) (fs : List (Int × RF)) : Prop := Bk wr w.heap.size u0C 24 ∧ Below w.heap.size w wr ∧ (∀ j u, xs[j]? = some u → wr.cell? ⟨gl, j, none⟩ = some u) ∧ gl < wr.heap.size ∧ FCs wr xs fs
theorem PB.up {w w1 w2 : World} {gl : Nat} {xs : List Value} {fs : List (Int × RF)} (h : PB w w1 gl xs fs) (hb : Below w1.heap.size w1 w2) : PB w w2 gl xs fs :=
  ⟨h.1.up hb, btrans h.2.1 hb, fun j u hj => (hb.cell (p := ⟨gl, j, none⟩) h.2.2.2.1).trans (h.2.2.1 j u hj), Nat.lt_of_lt_of_le h.2.2.2.1 hb.size, h.2.2.2.2.up hb⟩
theorem PB.grow {w w1 : World} {gl : Nat} {xs : List Value} {fs : List (Int × RF)} (h : PB w w1 gl xs fs) (C : Array Value) (t : TypeId) : PB w (w1.alloc (.cells C t)) gl xs fs := h.up (below_alloc (Below.refl _ _) _)
theorem PB.start {w w1 : World} {v : Value} {fs : List (Int × RF)} (h : RowR (w.alloc (.cells u0C 24)) w1 v fs) (hn : 0 < fs.length) : ∃ gl cap xs, v = .slice (some ⟨gl, 0, none⟩) fs.length cap ∧ fs.length ≤ 9223372036854775807 ∧ PB w w1 gl xs fs := by
  obtain ⟨xs, h1, h2, h3, h4⟩ := h
  obtain ⟨gl, cap, rfl, hgl, _, _⟩ := ownM_form h1 hn
  refine ⟨gl, cap, xs, rfl, ?_, (Bk.new w _ _).up h4, btrans (below_alloc (Below.refl _ _) _) h4, fun j u hj => ownM_cell h1 hj, hgl, h3⟩
  rcases h1.2 with ⟨_, h0⟩ | ⟨g, cap, cur, _, _, _, k1, k2, _⟩
  · omega
  · unfold maxLen at k2; omega
/-- A factor of the row, loaded. -/
theorem PB.at {w w1 : World} {gl : Nat} {xs : List Value} {fs : List (Int × RF)} (h : PB w w1 gl xs fs) {k : Nat} {sg : Int} {f : RF} (hk : fs[k]? = some (sg, f)) : ∃ (M : ByteArray) (ov by_ : Int) (pr : Bool) (p0 p1 p2 p3 p4 p5 p6 : Int) (of : Bool) (ze pa : Int) (yy : Bool) (B1 : Option Addr) (m1 c1 : Nat) (B2 : Option Addr) (m2 c2 : Nat) (iw : Bool), w1.rangeAt gl (k * 21) [.int .i64 sg, .bool yy, .slice B1 m1 c1, .slice B2 m2 c2, .string M, .int .i64 ov, .int .i64 by_, .bool pr, .int .i64 p0, .int .i64 p1, .int .i64 p2, .int .i64 p3, .int .i64 p4, .int .i64 p5, .int .i64 p6, .bool of, .int .i64 ze, .int .i64 pa, .bool iw, .int .i64 f.exp, .bool f.raised] ∧ f.off = of := by
  obtain ⟨M, ov, by_, pr, p0, p1, p2, p3, p4, p5, p6, of, ze, pa, yy, B1, m1, c1, B2, m2, c2, iw, hy, hs⟩ := h.2.2.2.2.at hk
  exact ⟨M, ov, by_, pr, p0, p1, p2, p3, p4, p5, p6, of, ze, pa, yy, B1, m1, c1, B2, m2, c2, iw, fun j v hv => h.2.2.1 _ _ (hy j v hv), hs.2.2.1⟩

set_option maxRecDepth 100000 in
set_option maxHeartbeats 12800000 in
theorem rparseUnit_any (S : ByteArray) (hs : S.size ≤ 9223372036854775807) (w : World) : Calls Tryz.prog 5 #[.string S] w (GiveU w (rpunit (bl S))) := by
  have sb : (S.size : Int) ≤ 9223372036854775807 := by omega
  have k0 := Lib.hid (Bk.new w u0C 24)
  have b0 := Lib.hid (show Below w.heap.size w (w.alloc (.cells u0C 24)) from (Below.refl _ w).alloc (Nat.le_refl _) _)
  obtain ⟨R, hR⟩ : ∃ R, rpunit (bl S) = R := ⟨_, rfl⟩
  rw [hR]
  unfold rpunit at hR
  rw [bl_len] at hR
  by_cases hl : 1000 < S.size
  · rw [if_pos hl] at hR
    subst hR
    have hl' : (1000 : Int) < (S.size : Int) := by omega
    clear hl k0 b0
    go_enter Tryz.func5, Tryz.ntmps5
    go_wp2
    refine bodyPost_ret (v := .tuple #[.agg u0C, .int .i64 4]) (by simp [results, Tryz.results5, go_sem, u0C]) rfl ⟨rfl, by (repeat (first | exact Below.refl _ _ | assumption | refine below_drewN ?_ _ | refine Below.drew ?_ | refine btrans ?_ (by assumption) | refine below_alloc ?_ _ | refine Below.setCell ?_ (by simp <;> omega) _ | refine Below.alloc ?_ (by simp <;> omega) _ | refine Below.setCell ?_ (by simp) _ | refine Below.alloc ?_ (by simp) _))⟩
  · rw [if_neg hl] at hR
    have hl' : ¬ (1000 : Int) < (S.size : Int) := by omega
    have FQ := fun w' => rfactors_any S (by omega) w'
    cases hp : rfac (S.size + 1) 1 [] (bl S) with
    | none =>
      rw [hp] at hR FQ
      subst hR
      unfold RFacQ at FQ
      dsimp only at FQ
      clear hl hp
      go_enter Tryz.func5, Tryz.ntmps5
      go_wp2_with (go_at_call 14; go_loud ((with_reducible refine (FQ _).mono ?_); rintro e w1 ⟨rfl, hb⟩; have k1 := Lib.hid (k0.out.up hb); have b1 := Lib.hid (btrans b0.out hb); obtain ⟨z0, z1, z2, z3, z4, z5, z6, z7, z8⟩ := u0_cells k1.out; obtain ⟨f0, f1, f2, f3, f4, f5, f6, f7, f8⟩ := Bk.frozen9 k1.out; clear hb))
      refine bodyPost_ret (v := .tuple #[.agg u0C, .int .i64 10]) (by simp [results, Tryz.results5, go_sem, u0C, z0, z1, z2, z3, z4, z5, z6, z7, z8]) rfl ⟨rfl, put9_below b1.out (Nat.le_refl _)⟩
    | some fs =>
      rw [hp] at hR FQ
      have HG := Lib.hid (rfac_good (.inl rfl) (fun x hx => absurd hx (by simp)) hp)
      unfold RFacQ at FQ
      dsimp only at FQ hR
      have HR := Lib.hid hR
      clear hp hR hl
      go_enter Tryz.func5, Tryz.ntmps5
      go_wp2_with (go_at_call 14; go_loud ((with_reducible refine (FQ _).mono ?_); rintro e w1 ⟨v, rfl, hr, hne⟩; have hn0 : 0 < fs.length := List.length_pos_iff.2 hne; obtain ⟨gl, cap, xs, rfl, hn63, hPB⟩ := PB.start hr hn0; have P1 := Lib.hid hPB; clear hr hne hPB))
      clear FQ k0 b0
      go_loopw [24] (fun i wr => ∃ k : Nat, k ≤ fs.length ∧ i = .int .i64 (k : Int) ∧ Hid ((fs.take k).any (offF fs) = false) ∧ Hid (PB w wr gl xs fs)) (fun i _ => (fs.length - intOf i).toNat)
      case atStart => exact ⟨0, Nat.zero_le _, rfl, Lib.hid rfl, P1⟩
      case round =>
        clear P1
        obtain ⟨k, hk, rfl, hA, hP⟩ := hrel
        by_cases hkn : k = fs.length
        · subst hkn
          rw [List.take_length] at hA
          by_cases h12 : 12 < fs.length
          · have hR := HR.out
            rw [rof_long hA.out h12] at hR
            subst hR
            have h12' : (12 : Int) < (fs.length : Int) := by omega
            clear hA h12
            obtain ⟨z0, z1, z2, z3, z4, z5, z6, z7, z8⟩ := u0_cells hP.out.1; obtain ⟨f0, f1, f2, f3, f4, f5, f6, f7, f8⟩ := Bk.frozen9 hP.out.1
            go_wp2
            refine bodyPost_ret (v := .tuple #[.agg u0C, .int .i64 4]) (by simp [results, Tryz.results5, go_sem, u0C, z0, z1, z2, z3, z4, z5, z6, z7, z8]) rfl ⟨rfl, put9_below hP.out.2.1 (Nat.le_refl _)⟩
          · have h12' : ¬ (12 : Int) < (fs.length : Int) := by omega
            have HE := Lib.hid (And.intro (fun k x hx he => rof_exp (k := k) (x := x) hA.out h12 hx he) (fun he => rof_end hA.out h12 he))
            have hP1 := Lib.hid hP.out
            clear hA hP
            go_wp2
            go_loopw [48] (fun i wr => ∃ k : Nat, k ≤ fs.length ∧ i = .int .i64 (k : Int) ∧ Hid (∀ x ∈ fs.take k, wi x.2.exp = true) ∧ Hid (PB w wr gl xs fs)) (fun i _ => (fs.length - intOf i).toNat)
            case atStart => exact ⟨0, Nat.zero_le _, rfl, Lib.hid (fun x hx => by simp at hx), hP1⟩
            case round =>
              clear hP1
              obtain ⟨k, hk, rfl, hW, hP⟩ := hrel
              by_cases hkn : k = fs.length
              · subst hkn
                rw [List.take_length] at hW
                have hR := HR.out
                rw [HE.out.2 hW.out] at hR
                have CB := rcombined_any fs.length cap gl xs fs wr hP.out.2.2.1 hP.out.2.2.2.1 hP.out.2.2.2.2 rfl (by omega) hW.out HG.out
                have hz := rprodF_sz HG.out hW.out (Nat.le_refl fs.length)
                have hz2 := rofsF_sz hP.out.2.2.2.2.sm (Nat.le_refl fs.length)
                rw [List.take_length] at hz hz2
                generalize rprodF fs = q at *
                generalize rofsF fs = oo at *
                obtain ⟨⟨s0, s1, s2, s3, s4, s5, s6⟩, hs2⟩ : ∃ p, rsumF fs = p := ⟨_, rfl⟩
                rw [hs2] at hR CB
                unfold ScaleR at CB
                dsimp only at CB
                have GV := fun w' y A1 l1 d1 A2 l2 d2 y' A3 l3 d3 A4 l4 d4 h1 h2 => rgive_any y y' A1 A2 A3 A4 l1 d1 l2 d2 l3 d3 l4 d4 s0 s1 s2 s3 s4 s5 s6 q oo w' h1 h2 (by omega) (by omega)
                rw [hR] at GV
                have P3 := Lib.hid hP.out
                obtain ⟨⟨XF, XO, ⟨x0, x1, x2, x3, x4, x5, x6⟩⟩, xe⟩ := R
                unfold GiveU Un.v uv at GV
                dsimp only at GV
                clear hR hW hP hs2 hz hz2 HE HR HG
                go_wp2_with (first
                  | (go_at_call 16; go_loud ((with_reducible refine (GV _ _ _ _ _ _ _ _ _ _ _ _ _ _ _ Q4.out R4.out).mono ?_); rintro e w8 ⟨rfl, hb⟩; have k8 := Lib.hid (P4.out.1.up hb); have b8 := Lib.hid (btrans P4.out.2.1 hb); obtain ⟨z0, z1, z2, z3, z4, z5, z6, z7, z8⟩ := u0_cells k8.out; obtain ⟨f0, f1, f2, f3, f4, f5, f6, f7, f8⟩ := Bk.frozen9 k8.out; clear hb))
                  | (go_at_call 17; go_loud ((with_reducible refine CB.mono ?_); rintro e w4 ⟨y, A1, l1, d1, A2, l2, d2, y', A3, l3, d3, A4, l4, d4, rfl, hb, hq, hq2⟩; have P4 := Lib.hid (P3.out.up hb); have Q4 := Lib.hid hq; have R4 := Lib.hid hq2; clear hb hq hq2)))
                refine bodyPost_ret (v := .tuple #[.agg #[.string ⟨XF.toArray⟩, .string ⟨XO.toArray⟩, .int .i64 x0, .int .i64 x1, .int .i64 x2, .int .i64 x3, .int .i64 x4, .int .i64 x5, .int .i64 x6], .int .i64 xe]) (by simp [results, Tryz.results5, go_sem, z0, z1, z2, z3, z4, z5, z6, z7, z8]) rfl ⟨rfl, put9_below b8.out (Nat.le_refl _)⟩
              · have hlt : k < fs.length := by omega
                have hi : (k : Int) < (fs.length : Int) := by omega
                obtain ⟨⟨sg, f⟩, hfk⟩ : ∃ x, fs[k]? = some x := ⟨_, List.getElem?_eq_getElem hlt⟩
                obtain ⟨M, ov, by_, pr, p0, p1, p2, p3, p4, p5, p6, of, ze, pa, yy, B1, m1, c1, B2, m2, c2, iw, hrr, _⟩ := hP.out.at hfk
                have RR := Lib.hid hrr
                have WI := fun w' => rwithin_any f.exp w'
                have HX := Lib.hid hfk
                clear hrr hfk
                go_upto_region 16 with fail
                refine wp_region_lit ?_
                refine wpList_indexAddr_is ?h1 48 (.tmp 46) (.tmp 48) ?h2 (.slice (some ⟨gl, 0, none⟩) fs.length cap) (.int .i64 (k : Int)) (.pointer (some ⟨gl, k * 21, none⟩)) ?h3 ?h4 (Tryz.indexF gl fs.length cap k hlt _) ?_
                case h1 => rfl
                case h2 => rfl
                case h3 => rfl
                case h4 => rfl
                simp only [Act.put, List.setIfInBounds_toArray, List.set_cons_zero, List.set_cons_succ]
                refine wpList_load_mid ?h1 58 (.tmp 50) ?h2 gl (k * 21) ?h3 [.int .i64 sg, .bool yy, .slice B1 m1 c1, .slice B2 m2 c2, .string M, .int .i64 ov, .int .i64 by_, .bool pr, .int .i64 p0, .int .i64 p1, .int .i64 p2, .int .i64 p3, .int .i64 p4, .int .i64 p5, .int .i64 p6, .bool of, .int .i64 ze, .int .i64 pa, .bool iw, .int .i64 f.exp, .bool f.raised] _ RR.out Tryz.underlying58 rfl ?hi ?_
                case h1 => rfl
                case h2 => rfl
                case h3 => rfl
                case hi => kernel_rfl
                simp only [Act.put, List.setIfInBounds_toArray, List.set_cons_zero, List.set_cons_succ]
                refine wpList_alloc_is ?h1 58 ?h2 (.agg fc0C) 21 ?hz ?_
                case h1 => rfl
                case h2 => rfl
                case hz => kernel_rfl
                simp only [Act.put, List.setIfInBounds_toArray, List.set_cons_zero, List.set_cons_succ]
                refine wpList_store_new ?h1 58 (.tmp 9) (.tmp 51) ?h2 (w0 := wr) rfl #[.int .i64 sg, .bool yy, .slice B1 m1 c1, .slice B2 m2 c2, .string M, .int .i64 ov, .int .i64 by_, .bool pr, .int .i64 p0, .int .i64 p1, .int .i64 p2, .int .i64 p3, .int .i64 p4, .int .i64 p5, .int .i64 p6, .bool of, .int .i64 ze, .int .i64 pa, .bool iw, .int .i64 f.exp, .bool f.raised] ?h3 ?h4 ?hc ?h5 ?h6 ?_
                case h1 => rfl
                case h2 => rfl
                case h3 => rfl
                case h4 => rfl
                case hc => kernel_rfl
                case h5 => rfl
                case h6 => simp [Value.oneCell']
                simp only [Act.put]
                have P5 := Lib.hid (hP.out.grow #[.int .i64 sg, .bool yy, .slice B1 m1 c1, .slice B2 m2 c2, .string M, .int .i64 ov, .int .i64 by_, .bool pr, .int .i64 p0, .int .i64 p1, .int .i64 p2, .int .i64 p3, .int .i64 p4, .int .i64 p5, .int .i64 p6, .bool of, .int .i64 ze, .int .i64 pa, .bool iw, .int .i64 f.exp, .bool f.raised] 58)
                have B5 := Lib.hid (Bk.new wr #[.int .i64 sg, .bool yy, .slice B1 m1 c1, .slice B2 m2 c2, .string M, .int .i64 ov, .int .i64 by_, .bool pr, .int .i64 p0, .int .i64 p1, .int .i64 p2, .int .i64 p3, .int .i64 p4, .int .i64 p5, .int .i64 p6, .bool of, .int .i64 ze, .int .i64 pa, .bool iw, .int .i64 f.exp, .bool f.raised] 58)
                clear hP RR
                generalize hw5 : World.alloc _ (.cells #[.int .i64 sg, .bool yy, .slice B1 m1 c1, .slice B2 m2 c2, .string M, .int .i64 ov, .int .i64 by_, .bool pr, .int .i64 p0, .int .i64 p1, .int .i64 p2, .int .i64 p3, .int .i64 p4, .int .i64 p5, .int .i64 p6, .bool of, .int .i64 ze, .int .i64 pa, .bool iw, .int .i64 f.exp, .bool f.raised] _) = w5 at *
                clear hw5
                generalize wr.heap.size = g5 at *
                have v19 : w5.cell? ⟨g5, 19, none⟩ = some (.int .i64 f.exp) := B5.out.cell 19
                cases hwi : wi f.exp
                · have hR := HE.out.1 _ _ HX.out hwi
                  rw [show rof fs = R from HR.out] at hR
                  rw [hwi] at WI
                  subst hR
                  clear hwi HE HX hW
                  obtain ⟨z0, z1, z2, z3, z4, z5, z6, z7, z8⟩ := u0_cells P5.out.1; obtain ⟨f0, f1, f2, f3, f4, f5, f6, f7, f8⟩ := Bk.frozen9 P5.out.1
                  go_wp2_with (go_at_call 15; go_loud ((with_reducible refine (WI _).mono ?_); rintro e w6 ⟨rfl, rfl⟩))
                  refine bodyPost_ret (v := .tuple #[.agg u0C, .int .i64 4]) (by simp [results, Tryz.results5, go_sem, u0C, z0, z1, z2, z3, z4, z5, z6, z7, z8]) rfl ⟨rfl, put9_below P5.out.2.1 (Nat.le_refl _)⟩
                · have HWi : Hid (∀ x ∈ fs.take (k + 1), wi x.2.exp = true) := Lib.hid (fun x hx => by
                    rw [List.take_add_one, HX.out] at hx
                    rcases List.mem_append.1 hx with hx | hx
                    · exact hW.out x hx
                    · simp at hx; rw [hx]; exact hwi)
                  rw [hwi] at WI
                  clear hwi hW HX
                  go_wp2_with (go_at_call 15; go_loud ((with_reducible refine (WI _).mono ?_); rintro e w6 ⟨rfl, rfl⟩))
                  go_roundw
                  case rel => exact ⟨k + 1, by omega, by go_num, HWi, P5⟩
                  case measure => simp only [intOf]; omega
        · have hlt : k < fs.length := by omega
          have hi : (k : Int) < (fs.length : Int) := by omega
          obtain ⟨⟨sg, f⟩, hfk⟩ : ∃ x, fs[k]? = some x := ⟨_, List.getElem?_eq_getElem hlt⟩
          obtain ⟨M, ov, by_, pr, p0, p1, p2, p3, p4, p5, p6, of, ze, pa, yy, B1, m1, c1, B2, m2, c2, iw, hrr, hof⟩ := hP.out.at hfk
          have RR := Lib.hid hrr
          have HX := Lib.hid hfk
          have HO := Lib.hid hof
          clear hrr hfk hof
          go_upto_region 8 with fail
          refine wp_region_lit ?_
          refine wpList_indexAddr_is ?h1 48 (.tmp 22) (.tmp 24) ?h2 (.slice (some ⟨gl, 0, none⟩) fs.length cap) (.int .i64 (k : Int)) (.pointer (some ⟨gl, k * 21, none⟩)) ?h3 ?h4 (Tryz.indexF gl fs.length cap k hlt _) ?_
          case h1 => rfl
          case h2 => rfl
          case h3 => rfl
          case h4 => rfl
          simp only [Act.put, List.setIfInBounds_toArray, List.set_cons_zero, List.set_cons_succ]
          refine wpList_load_mid ?h1 58 (.tmp 26) ?h2 gl (k * 21) ?h3 [.int .i64 sg, .bool yy, .slice B1 m1 c1, .slice B2 m2 c2, .string M, .int .i64 ov, .int .i64 by_, .bool pr, .int .i64 p0, .int .i64 p1, .int .i64 p2, .int .i64 p3, .int .i64 p4, .int .i64 p5, .int .i64 p6, .bool of, .int .i64 ze, .int .i64 pa, .bool iw, .int .i64 f.exp, .bool f.raised] _ RR.out Tryz.underlying58 rfl ?hi ?_
          case h1 => rfl
          case h2 => rfl
          case h3 => rfl
          case hi => kernel_rfl
          simp only [Act.put, List.setIfInBounds_toArray, List.set_cons_zero, List.set_cons_succ]
          refine wpList_alloc_is ?h1 58 ?h2 (.agg fc0C) 21 ?hz ?_
          case h1 => rfl
          case h2 => rfl
          case hz => kernel_rfl
          simp only [Act.put, List.setIfInBounds_toArray, List.set_cons_zero, List.set_cons_succ]
          refine wpList_store_new ?h1 58 (.tmp 7) (.tmp 27) ?h2 (w0 := wr) rfl #[.int .i64 sg, .bool yy, .slice B1 m1 c1, .slice B2 m2 c2, .string M, .int .i64 ov, .int .i64 by_, .bool pr, .int .i64 p0, .int .i64 p1, .int .i64 p2, .int .i64 p3, .int .i64 p4, .int .i64 p5, .int .i64 p6, .bool of, .int .i64 ze, .int .i64 pa, .bool iw, .int .i64 f.exp, .bool f.raised] ?h3 ?h4 ?hc ?h5 ?h6 ?_
          case h1 => rfl
          case h2 => rfl
          case h3 => rfl
          case h4 => rfl
          case hc => kernel_rfl
          case h5 => rfl
          case h6 => simp [Value.oneCell']
          simp only [Act.put]
          have P5 := Lib.hid (hP.out.grow #[.int .i64 sg, .bool yy, .slice B1 m1 c1, .slice B2 m2 c2, .string M, .int .i64 ov, .int .i64 by_, .bool pr, .int .i64 p0, .int .i64 p1, .int .i64 p2, .int .i64 p3, .int .i64 p4, .int .i64 p5, .int .i64 p6, .bool of, .int .i64 ze, .int .i64 pa, .bool iw, .int .i64 f.exp, .bool f.raised] 58)
          have B5 := Lib.hid (Bk.new wr #[.int .i64 sg, .bool yy, .slice B1 m1 c1, .slice B2 m2 c2, .string M, .int .i64 ov, .int .i64 by_, .bool pr, .int .i64 p0, .int .i64 p1, .int .i64 p2, .int .i64 p3, .int .i64 p4, .int .i64 p5, .int .i64 p6, .bool of, .int .i64 ze, .int .i64 pa, .bool iw, .int .i64 f.exp, .bool f.raised] 58)
          clear hP RR
          generalize hw5 : World.alloc _ (.cells #[.int .i64 sg, .bool yy, .slice B1 m1 c1, .slice B2 m2 c2, .string M, .int .i64 ov, .int .i64 by_, .bool pr, .int .i64 p0, .int .i64 p1, .int .i64 p2, .int .i64 p3, .int .i64 p4, .int .i64 p5, .int .i64 p6, .bool of, .int .i64 ze, .int .i64 pa, .bool iw, .int .i64 f.exp, .bool f.raised] _) = w5 at *
          clear hw5
          generalize wr.heap.size = g5 at *
          have v15 : w5.cell? ⟨g5, 15, none⟩ = some (.bool of) := B5.out.cell 15
          have v20 : w5.cell? ⟨g5, 20, none⟩ = some (.bool f.raised) := B5.out.cell 20
          cases of
          · skip
            have HA := Lib.hid (any_step hA.out HX.out (by show (f.off && (decide (1 < fs.length) || f.raised)) = false; rw [HO.out]; rfl))
            clear hA HX HO
            go_wp2
            go_roundw
            case rel => exact ⟨k + 1, by omega, by go_num, HA, P5⟩
            case measure => simp only [intOf]; omega
          · by_cases h1 : 1 < fs.length
            · have h1' : (1 : Int) < (fs.length : Int) := by omega
              have hY := any_yes (p := offF fs) HX.out (by show (f.off && (decide (1 < fs.length) || f.raised)) = true; rw [HO.out]; rw [decide_eq_true h1]; rfl)
              have hR := HR.out
              rw [rof_off hY] at hR
              subst hR
              clear hY hA HX HO
              obtain ⟨z0, z1, z2, z3, z4, z5, z6, z7, z8⟩ := u0_cells P5.out.1; obtain ⟨f0, f1, f2, f3, f4, f5, f6, f7, f8⟩ := Bk.frozen9 P5.out.1
              go_wp2
              refine bodyPost_ret (v := .tuple #[.agg u0C, .int .i64 10]) (by simp [results, Tryz.results5, go_sem, u0C, z0, z1, z2, z3, z4, z5, z6, z7, z8]) rfl ⟨rfl, put9_below P5.out.2.1 (Nat.le_refl _)⟩
            · have h1' : ¬ (1 : Int) < (fs.length : Int) := by omega
              cases hra : f.raised
              · rw [hra] at v20
                have HA := Lib.hid (any_step hA.out HX.out (by show (f.off && (decide (1 < fs.length) || f.raised)) = false; rw [HO.out]; rw [decide_eq_false h1, hra]; rfl))
                clear hA HX HO
                go_wp2
                go_roundw
                case rel => exact ⟨k + 1, by omega, by go_num, HA, P5⟩
                case measure => simp only [intOf]; omega
              · rw [hra] at v20
                have hY := any_yes (p := offF fs) HX.out (by show (f.off && (decide (1 < fs.length) || f.raised)) = true; rw [HO.out]; rw [hra]; simp)
                have hR := HR.out
                rw [rof_off hY] at hR
                subst hR
                clear hY hA HX HO
                obtain ⟨z0, z1, z2, z3, z4, z5, z6, z7, z8⟩ := u0_cells P5.out.1; obtain ⟨f0, f1, f2, f3, f4, f5, f6, f7, f8⟩ := Bk.frozen9 P5.out.1
                go_wp2
                refine bodyPost_ret (v := .tuple #[.agg u0C, .int .i64 10]) (by simp [results, Tryz.results5, go_sem, u0C, z0, z1, z2, z3, z4, z5, z6, z7, z8]) rfl ⟨rfl, put9_below P5.out.2.1 (Nat.le_refl _)⟩
end Go.Proofs.YthjnmnepjeegiaaGreatDoor
