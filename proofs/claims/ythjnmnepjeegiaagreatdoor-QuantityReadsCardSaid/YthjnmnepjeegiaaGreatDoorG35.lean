/- The reference's parser of units: combined. -/
import Derived.Test.YthjnmnepjeegiaaGreatDoorG34
import Derived.Deep.DeepCutAuto
import Derived.Deep.RegionWith
/- The reference's parser of units: combined. -/
namespace Go.Proofs.YthjnmnepjeegiaaGreatDoor
open Go.RowKit Go.Proofs.YthjnmnepjeegiaaGreatDoor.Dg Go.Proofs.YthjnmnepjeegiaaGreatDoor.Q Go.Proofs.YthjnmnepjeegiaaGreatDoor.Num Go.Proofs.YthjnmnepjeegiaaGreatDoor.Str

set_option maxRecDepth 100000 in
set_option maxHeartbeats 12800000 in
theorem rcombined_any (n c gl : Nat) (xs : List Value) (fs : List (Int × RF)) (w : World) (hc : ∀ j u, xs[j]? = some u → w.cell? ⟨gl, j, none⟩ = some u) (hgl : gl < w.heap.size) (hF : FCs w xs fs) (hl : fs.length = n) (hn : n ≤ 12) (he : ∀ x ∈ fs, wi x.2.exp = true) (hg : ∀ x ∈ fs, goodF x) :
    Calls Tryz.prog 17 #[.slice (some ⟨gl, 0, none⟩) n c] w (ScaleR (rprodF fs) (rofsF fs) (rsumF fs) w) := by
  have hbn : (n : Int) ≤ 12 := by omega
  have hsm := hF.sm
  have HC := Lib.hid (And.intro hc (And.intro hF (And.intro he (And.intro hg hsm))))
  clear hc hF he hg hsm
  have I1 := fun w' => (rintq_any 1 (by decide) (by decide) w').mono fun e w2 h => GiveQ.vals h
  have hq1 : ((1 : Int) : Rat) = rprodF (fs.take 0) := by rw [List.take_zero]; rfl
  rw [hq1] at I1
  have o0 : (0 : Rat) = rofsF (fs.take 0) := by rw [List.take_zero]; rfl
  have p0' : (⟨0, 0, 0, 0, 0, 0, 0⟩ : P7) = rsumF (fs.take 0) := by rw [List.take_zero]; rfl
  have US := Lib.hid (fun w1 y A1 l1 d1 A2 l2 d2 => UI.start (w := w) (w1 := w1) (q := rprodF (fs.take 0)) (y := y) (A1 := A1) (l1 := l1) (d1 := d1) (A2 := A2) (l2 := l2) (d2 := d2))
  rw [o0, p0'] at US
  clear hq1 o0 p0'
  go_enter Tryz.func17, Tryz.ntmps17
  go_wp2_with (go_at_call 37; go_loud ((with_reducible refine (I1 _).mono ?_); rintro e w1 ⟨y, A1, l1, d1, A2, l2, d2, rfl, hb, hq⟩; have U0 := Lib.hid (US.out w1 y A1 l1 d1 A2 l2 d2 hb hq); clear hb hq))
  generalize hw3 : World.alloc _ (.cells #[.bool y, .slice A1 l1 d1, .slice A2 l2 d2, .bool false, .slice none 0 0, .slice none 0 0, .int .i64 0, .int .i64 0, .int .i64 0, .int .i64 0, .int .i64 0, .int .i64 0, .int .i64 0] _) = w3 at *
  generalize w1.heap.size = g3 at *
  clear hw3 US I1
  go_loopw [14] (fun i wr => ∃ k : Nat, k ≤ n ∧ i = .int .i64 (k : Int) ∧ Hid (UI w wr g3 (rprodF (fs.take k)) (rofsF (fs.take k)) (rsumF (fs.take k)))) (fun i _ => (n - intOf i).toNat)
  case atStart => exact ⟨0, Nat.zero_le _, rfl, U0⟩
  case round =>
    clear U0
    obtain ⟨k, hk, rfl, hU⟩ := hrel
    by_cases hkn : k = n
    · subst hkn
      have hU := hU.out
      rw [List.take_of_length_le (by omega)] at hU
      generalize rprodF fs = q at *
      generalize rofsF fs = oo at *
      generalize rsumF fs = p at *
      obtain ⟨h1, h2, h3, y, A1, l1, d1, A2, l2, d2, y', A3, l3, d3, A4, l4, d4, h4, h5, h6⟩ := hU
      have H1 := Lib.hid h1
      have H2 := Lib.hid h2
      have H4 := Lib.hid h4
      have H5 := Lib.hid h5
      have H6 := Lib.hid h6
      clear h1 h2 h4 h5 h6 HC
      go_upto_region 16 with fail
      refine wp_region_lit ?_
      refine wpList_load_bk ?h1 62 (.tmp 3) ?h2 g3 #[.bool y, .slice A1 l1 d1, .slice A2 l2 d2, .bool y', .slice A3 l3 d3, .slice A4 l4 d4, .int .i64 p.a, .int .i64 p.b, .int .i64 p.c, .int .i64 p.d, .int .i64 p.e, .int .i64 p.f, .int .i64 p.g] ?h3 62 _ H4.out Tryz.underlying62 rfl ?hi ?_
      case h1 => rfl
      case h2 => rfl
      case h3 => rfl
      case hi => kernel_rfl
      simp only [Act.put, List.setIfInBounds_toArray, List.set_cons_zero, List.set_cons_succ]
      refine wpList_store_bk ?h1 62 (.tmp 2) (.tmp 72) ?h2 w.heap.size #[.bool y, .slice A1 l1 d1, .slice A2 l2 d2, .bool y', .slice A3 l3 d3, .slice A4 l4 d4, .int .i64 p.a, .int .i64 p.b, .int .i64 p.c, .int .i64 p.d, .int .i64 p.e, .int .i64 p.f, .int .i64 p.g] ?h3 ?h4 62 sc0C H1.out ?hc ?h5 ?h6 ?_
      case h1 => rfl
      case h2 => rfl
      case h3 => rfl
      case h4 => rfl
      case hc => kernel_rfl
      case h5 => rfl
      case h6 => simp [Value.oneCell']
      simp only [Act.put]
      have kF := H1.out.row #[.bool y, .slice A1 l1 d1, .slice A2 l2 d2, .bool y', .slice A3 l3 d3, .slice A4 l4 d4, .int .i64 p.a, .int .i64 p.b, .int .i64 p.c, .int .i64 p.d, .int .i64 p.e, .int .i64 p.f, .int .i64 p.g]
      have bF := Lib.hid (below_row H2.out (Nat.le_refl _) #[.bool y, .slice A1 l1 d1, .slice A2 l2 d2, .bool y', .slice A3 l3 d3, .slice A4 l4 d4, .int .i64 p.a, .int .i64 p.b, .int .i64 p.c, .int .i64 p.d, .int .i64 p.e, .int .i64 p.f, .int .i64 p.g])
      have qF := Lib.hid (H5.out.row H1.out sc0_all #[.bool y, .slice A1 l1 d1, .slice A2 l2 d2, .bool y', .slice A3 l3 d3, .slice A4 l4 d4, .int .i64 p.a, .int .i64 p.b, .int .i64 p.c, .int .i64 p.d, .int .i64 p.e, .int .i64 p.f, .int .i64 p.g])
      have rF := Lib.hid (H6.out.row H1.out sc0_all #[.bool y, .slice A1 l1 d1, .slice A2 l2 d2, .bool y', .slice A3 l3 d3, .slice A4 l4 d4, .int .i64 p.a, .int .i64 p.b, .int .i64 p.c, .int .i64 p.d, .int .i64 p.e, .int .i64 p.f, .int .i64 p.g])
      clear H1 H2 H4 H5 H6
      generalize hwf : World.setRow _ _ _ = wf at *
      clear hwf
      go_wp2
      have hL := run_load_bk (P := Tryz.prog) kF Tryz.underlying62 rfl (by kernel_rfl)
      refine bodyPost_ret (results_c rfl rfl hL) rfl ?_
      exact ⟨y, A1, l1, d1, A2, l2, d2, y', A3, l3, d3, A4, l4, d4, rfl, bF.out, qF.out, rF.out⟩
    · have hlt : k < n := by omega
      have hi : (k : Int) < (n : Int) := by omega
      obtain ⟨⟨sg, f⟩, hfk⟩ : ∃ x, fs[k]? = some x := ⟨_, List.getElem?_eq_getElem (by omega)⟩
      obtain ⟨hc, hF, he, hg, hsm⟩ := HC.out
      obtain ⟨M, ov, by_, pr, p0, p1, p2, p3, p4, p5, p6, of, ze, pa, yy, B1, m1, c1, B2, m2, c2, iw, hy, hsF⟩ := hF.at hfk
      have hm := List.mem_of_getElem? hfk
      obtain ⟨hg1, hg2, hg3⟩ := hg _ hm
      have hw12 := exp_in hg1 (he _ hm)
      dsimp only at hg1 hg2 hg3 hw12
      obtain ⟨nn, hnn⟩ : ∃ m, sg * f.exp = m := ⟨_, rfl⟩
      rw [hnn] at hw12
      have xn : IntKind.i64.wrap (sg * f.exp) = nn := by rw [hnn]; exact IntWalk.i64_in _ (by constructor <;> omega)
      have hz := rprodF_sz hg he (k := k) (by omega)
      have le := rsumF_le hg hsm he (k := k) (by omega)
      have HS := rsumF_succ hfk
      have HQ := rprodF_succ hfk
      have HO := rofsF_succ hfk
      rw [hnn] at HS HQ
      obtain ⟨hsq, e1, e2, e3, hps, ⟨za, zb⟩, ⟨pa', pb'⟩, _⟩ := hsF
      rw [e1] at HS
      rw [e2, e3] at HO
      have RR := Lib.hid (row_range hc hgl hU.out.b hy)
      have QF := Lib.hid (hsq.up hU.out.b)
      clear hy hsq e1 e2 e3 hfk hm hc hF he hg hsm hnn hg1
      obtain ⟨⟨s0, s1, s2, s3, s4, s5, s6⟩, hs⟩ : ∃ p, rsumF (fs.take k) = p := ⟨_, rfl⟩
      rw [hs] at hU le HS
      obtain ⟨q, hq⟩ : ∃ q, rprodF (fs.take k) = q := ⟨_, rfl⟩
      rw [hq] at hU hz HQ
      obtain ⟨oo, ho⟩ : ∃ q, rofsF (fs.take k) = q := ⟨_, rfl⟩
      rw [ho] at hU HO
      unfold P7.le at le
      unfold P7.small at hps
      unfold P7.plus at HS
      dsimp only at le hps HS HQ za zb pa' pb'
      obtain ⟨⟨la0, lb0⟩, ⟨la1, lb1⟩, ⟨la2, lb2⟩, ⟨la3, lb3⟩, ⟨la4, lb4⟩, ⟨la5, lb5⟩, ⟨la6, lb6⟩⟩ := le
      obtain ⟨hp0, hp1, hp2, hp3, hp4, hp5, hp6⟩ := hps
      have t0 := mul_36 hw12 hp0
      obtain ⟨m0', hm0⟩ : ∃ m, nn * p0 = m := ⟨_, rfl⟩
      rw [hm0] at t0 HS
      have mm0 : p0 * nn = m0' := by rw [Int.mul_comm]; exact hm0
      obtain ⟨tl0, th0⟩ := t0
      have x0 : IntKind.i64.wrap (p0 * nn) = m0' := by rw [mm0]; exact IntWalk.i64_in _ (by constructor <;> omega)
      have y0 : IntKind.i64.wrap (s0 + m0') = s0 + m0' := IntWalk.i64_in _ (by constructor <;> omega)
      clear hm0 hp0 mm0
      have t1 := mul_36 hw12 hp1
      obtain ⟨m1', hm1⟩ : ∃ m, nn * p1 = m := ⟨_, rfl⟩
      rw [hm1] at t1 HS
      have mm1 : p1 * nn = m1' := by rw [Int.mul_comm]; exact hm1
      obtain ⟨tl1, th1⟩ := t1
      have x1 : IntKind.i64.wrap (p1 * nn) = m1' := by rw [mm1]; exact IntWalk.i64_in _ (by constructor <;> omega)
      have y1 : IntKind.i64.wrap (s1 + m1') = s1 + m1' := IntWalk.i64_in _ (by constructor <;> omega)
      clear hm1 hp1 mm1
      have t2 := mul_36 hw12 hp2
      obtain ⟨m2', hm2⟩ : ∃ m, nn * p2 = m := ⟨_, rfl⟩
      rw [hm2] at t2 HS
      have mm2 : p2 * nn = m2' := by rw [Int.mul_comm]; exact hm2
      obtain ⟨tl2, th2⟩ := t2
      have x2 : IntKind.i64.wrap (p2 * nn) = m2' := by rw [mm2]; exact IntWalk.i64_in _ (by constructor <;> omega)
      have y2 : IntKind.i64.wrap (s2 + m2') = s2 + m2' := IntWalk.i64_in _ (by constructor <;> omega)
      clear hm2 hp2 mm2
      have t3 := mul_36 hw12 hp3
      obtain ⟨m3', hm3⟩ : ∃ m, nn * p3 = m := ⟨_, rfl⟩
      rw [hm3] at t3 HS
      have mm3 : p3 * nn = m3' := by rw [Int.mul_comm]; exact hm3
      obtain ⟨tl3, th3⟩ := t3
      have x3 : IntKind.i64.wrap (p3 * nn) = m3' := by rw [mm3]; exact IntWalk.i64_in _ (by constructor <;> omega)
      have y3 : IntKind.i64.wrap (s3 + m3') = s3 + m3' := IntWalk.i64_in _ (by constructor <;> omega)
      clear hm3 hp3 mm3
      have t4 := mul_36 hw12 hp4
      obtain ⟨m4', hm4⟩ : ∃ m, nn * p4 = m := ⟨_, rfl⟩
      rw [hm4] at t4 HS
      have mm4 : p4 * nn = m4' := by rw [Int.mul_comm]; exact hm4
      obtain ⟨tl4, th4⟩ := t4
      have x4 : IntKind.i64.wrap (p4 * nn) = m4' := by rw [mm4]; exact IntWalk.i64_in _ (by constructor <;> omega)
      have y4 : IntKind.i64.wrap (s4 + m4') = s4 + m4' := IntWalk.i64_in _ (by constructor <;> omega)
      clear hm4 hp4 mm4
      have t5 := mul_36 hw12 hp5
      obtain ⟨m5', hm5⟩ : ∃ m, nn * p5 = m := ⟨_, rfl⟩
      rw [hm5] at t5 HS
      have mm5 : p5 * nn = m5' := by rw [Int.mul_comm]; exact hm5
      obtain ⟨tl5, th5⟩ := t5
      have x5 : IntKind.i64.wrap (p5 * nn) = m5' := by rw [mm5]; exact IntWalk.i64_in _ (by constructor <;> omega)
      have y5 : IntKind.i64.wrap (s5 + m5') = s5 + m5' := IntWalk.i64_in _ (by constructor <;> omega)
      clear hm5 hp5 mm5
      have t6 := mul_36 hw12 hp6
      obtain ⟨m6', hm6⟩ : ∃ m, nn * p6 = m := ⟨_, rfl⟩
      rw [hm6] at t6 HS
      have mm6 : p6 * nn = m6' := by rw [Int.mul_comm]; exact hm6
      obtain ⟨tl6, th6⟩ := t6
      have x6 : IntKind.i64.wrap (p6 * nn) = m6' := by rw [mm6]; exact IntWalk.i64_in _ (by constructor <;> omega)
      have y6 : IntKind.i64.wrap (s6 + m6') = s6 + m6' := IntWalk.i64_in _ (by constructor <;> omega)
      clear hm6 hp6 mm6
      have hne0 : f.num ≠ 0 := Rat.ne_of_gt hg2
      have zp := sz_zpow hne0 hg3 nn
      have hnat : nn.natAbs ≤ 12 := by omega
      have zn : nn.natAbs * 5 ≤ 60 := by omega
      have RA := fun w' v (h : Qr w' v f.num) => (rraise_any v f.num nn hnat w' h (by omega)).mono fun e w2 h => GiveQ.vals h
      have PR := fun w' v v' (h : Qr w' v q) (h' : Qr w' v' (f.num ^ nn)) => (rprod_any v v' q (f.num ^ nn) w' h h' (by omega)).mono fun e w2 h => GiveQ.vals h
      obtain ⟨fe, hfe⟩ : ∃ x, f.num ^ nn = x := ⟨_, rfl⟩
      rw [hfe] at HQ
      simp only [hfe] at RA PR
      obtain ⟨q', hq'⟩ : ∃ x, q * fe = x := ⟨_, rfl⟩
      rw [hq'] at HQ
      simp only [hq'] at PR
      have FR := fun w' => (rfrac_any ze pa (by omega) (by omega) (by omega) (by omega) w').mono fun e w2 h => GiveQ.vals h
      have HSh := Lib.hid HS
      have HQh := Lib.hid HQ
      have HOh := Lib.hid HO
      clear HS HQ HO hfe hq' hs hq ho hz zp zn hne0 hg2 hg3 za zb pa' pb' HC hw12 hlt hnat
      go_upto_region 4 with fail
      refine wp_region_lit ?_
      refine wpList_indexAddr_is ?h1 48 (.tmp 12) (.tmp 14) ?h2 (.slice (some ⟨gl, 0, none⟩) n c) (.int .i64 (k : Int)) (.pointer (some ⟨gl, k * 21, none⟩)) ?h3 ?h4 (Tryz.indexF gl n c k (by omega) _) ?_
      case h1 => rfl
      case h2 => rfl
      case h3 => rfl
      case h4 => rfl
      simp only [Act.put, List.setIfInBounds_toArray, List.set_cons_zero, List.set_cons_succ]
      refine wpList_load_mid ?h1 58 (.tmp 16) ?h2 gl (k * 21) ?h3 [.int .i64 sg, .bool yy, .slice B1 m1 c1, .slice B2 m2 c2, .string M, .int .i64 ov, .int .i64 by_, .bool pr, .int .i64 p0, .int .i64 p1, .int .i64 p2, .int .i64 p3, .int .i64 p4, .int .i64 p5, .int .i64 p6, .bool of, .int .i64 ze, .int .i64 pa, .bool iw, .int .i64 f.exp, .bool f.raised] _ RR.out Tryz.underlying58 rfl ?hi ?_
      case h1 => rfl
      case h2 => rfl
      case h3 => rfl
      case hi => kernel_rfl
      simp only [Act.put, List.setIfInBounds_toArray, List.set_cons_zero, List.set_cons_succ]
      refine wpList_alloc_is ?h1 58 ?h2 (.agg fc0C) 21 ?hz ?_
      case h1 => rfl
      case h2 => rfl
      case hz => kernel_rfl
      simp only [Act.put, List.setIfInBounds_toArray, List.set_cons_zero, List.set_cons_succ]
      refine wpList_store_new ?h1 58 (.tmp 5) (.tmp 17) ?h2 (w0 := wr) rfl #[.int .i64 sg, .bool yy, .slice B1 m1 c1, .slice B2 m2 c2, .string M, .int .i64 ov, .int .i64 by_, .bool pr, .int .i64 p0, .int .i64 p1, .int .i64 p2, .int .i64 p3, .int .i64 p4, .int .i64 p5, .int .i64 p6, .bool of, .int .i64 ze, .int .i64 pa, .bool iw, .int .i64 f.exp, .bool f.raised] ?h3 ?h4 ?hc ?h5 ?h6 ?_
      case h1 => rfl
      case h2 => rfl
      case h3 => rfl
      case h4 => rfl
      case hc => kernel_rfl
      case h5 => rfl
      case h6 => simp [Value.oneCell']
      simp only [Act.put]
      have U5 := Lib.hid (hU.out.grow #[.int .i64 sg, .bool yy, .slice B1 m1 c1, .slice B2 m2 c2, .string M, .int .i64 ov, .int .i64 by_, .bool pr, .int .i64 p0, .int .i64 p1, .int .i64 p2, .int .i64 p3, .int .i64 p4, .int .i64 p5, .int .i64 p6, .bool of, .int .i64 ze, .int .i64 pa, .bool iw, .int .i64 f.exp, .bool f.raised] 58)
      have B5 := Lib.hid (Bk.new wr #[.int .i64 sg, .bool yy, .slice B1 m1 c1, .slice B2 m2 c2, .string M, .int .i64 ov, .int .i64 by_, .bool pr, .int .i64 p0, .int .i64 p1, .int .i64 p2, .int .i64 p3, .int .i64 p4, .int .i64 p5, .int .i64 p6, .bool of, .int .i64 ze, .int .i64 pa, .bool iw, .int .i64 f.exp, .bool f.raised] 58)
      have Q5 := Lib.hid (QF.out.up (below_alloc (Below.refl _ _) (.cells #[.int .i64 sg, .bool yy, .slice B1 m1 c1, .slice B2 m2 c2, .string M, .int .i64 ov, .int .i64 by_, .bool pr, .int .i64 p0, .int .i64 p1, .int .i64 p2, .int .i64 p3, .int .i64 p4, .int .i64 p5, .int .i64 p6, .bool of, .int .i64 ze, .int .i64 pa, .bool iw, .int .i64 f.exp, .bool f.raised] 58)))
      have g35 : g3 < wr.heap.size := hU.out.lt
      clear hU RR QF
      generalize hw5 : World.alloc _ (.cells #[.int .i64 sg, .bool yy, .slice B1 m1 c1, .slice B2 m2 c2, .string M, .int .i64 ov, .int .i64 by_, .bool pr, .int .i64 p0, .int .i64 p1, .int .i64 p2, .int .i64 p3, .int .i64 p4, .int .i64 p5, .int .i64 p6, .bool of, .int .i64 ze, .int .i64 pa, .bool iw, .int .i64 f.exp, .bool f.raised] _) = w5 at *
      clear hw5
      generalize wr.heap.size = g5 at *
      have v0 : w5.cell? ⟨g5, 0, none⟩ = some (.int .i64 sg) := B5.out.cell 0
      have v19 : w5.cell? ⟨g5, 19, none⟩ = some (.int .i64 f.exp) := B5.out.cell 19
      go_upto_region 6 with fail
      clear v0 v19 xn
      have U5 := Lib.hid (U5.out.up (Below.drew (Below.refl _ _)))
      have B5 := Lib.hid (B5.out.up (Below.drew (Below.refl _ _)))
      have Q5 := Lib.hid (Q5.out.up (Below.drew (Below.refl _ _)))
      obtain ⟨y, A1, l1, d1, A2, l2, d2, y', A3, l3, d3, A4, l4, d4, hb4, hq5, _⟩ := U5.out.2.2.2
      obtain ⟨n0, n1, n2, e1, e2, e3⟩ := (show w5.drew.cell? ⟨g3, 0, none⟩ = some (.bool y) ∧ w5.drew.cell? ⟨g3, 1, none⟩ = some (.slice A1 l1 d1) ∧ w5.drew.cell? ⟨g3, 2, none⟩ = some (.slice A2 l2 d2) ∧ w5.drew.cell? ⟨g5, 1, none⟩ = some (.bool yy) ∧ w5.drew.cell? ⟨g5, 2, none⟩ = some (.slice B1 m1 c1) ∧ w5.drew.cell? ⟨g5, 3, none⟩ = some (.slice B2 m2 c2) from ⟨hb4.cell 0, hb4.cell 1, hb4.cell 2, B5.out.cell 1, B5.out.cell 2, B5.out.cell 3⟩)
      have N5 := Lib.hid hb4
      have M5 := Lib.hid hq5
      clear hb4 hq5
      go_cut [] (fun wx => Hid (UI w wx g3 q' oo ⟨s0, s1, s2, s3, s4, s5, s6⟩) ∧ Hid (Bk wx g5 #[.int .i64 sg, .bool yy, .slice B1 m1 c1, .slice B2 m2 c2, .string M, .int .i64 ov, .int .i64 by_, .bool pr, .int .i64 p0, .int .i64 p1, .int .i64 p2, .int .i64 p3, .int .i64 p4, .int .i64 p5, .int .i64 p6, .bool of, .int .i64 ze, .int .i64 pa, .bool iw, .int .i64 f.exp, .bool f.raised] 58))
      case first =>
        go_region_with (first
          | (go_at_call 38; go_loud ((with_reducible refine (PR _ _ _ M6.out P6.out).mono ?_); rintro e' w7 ⟨z7, D1, r1, h1, D2, r2, h2, rfl, hb, hq⟩; have U7 := Lib.hid (U6.out.up hb); have B7 := Lib.hid (B6.out.up hb); have N7 := Lib.hid (N6.out.up hb); obtain ⟨n0, n1, n2, f0, f1, f2⟩ := (show _ ∧ _ ∧ _ ∧ _ ∧ _ ∧ _ from ⟨N7.out.cell 0, N7.out.cell 1, N7.out.cell 2, N7.out.frozen 0, N7.out.frozen 1, N7.out.frozen 2⟩); have P7' := Lib.hid hq; clear hb hq))
          | (go_at_call 39; go_loud ((with_reducible refine (RA _ _ Q5.out).mono ?_); rintro e' w6 ⟨z6, D3, r3, h3, D4, r4, h4, rfl, hb, hq⟩; have U6 := Lib.hid (U5.out.up hb); have B6 := Lib.hid (B5.out.up hb); have N6 := Lib.hid (N5.out.up hb); obtain ⟨n0, n1, n2⟩ := (show _ ∧ _ ∧ _ from ⟨N6.out.cell 0, N6.out.cell 1, N6.out.cell 2⟩); have M6 := Lib.hid (M5.out.up hb); have P6 := Lib.hid hq; clear hb hq)))
        all_goals go_wp2
        all_goals go_meet
        all_goals exact ⟨Lib.hid (U7.out.putQ P7'.out), Lib.hid (B7.out.put_other 0 [.bool z7, .slice D1 r1 h1, .slice D2 r2 h2] (Nat.ne_of_gt g35))⟩
      case rest =>
      obtain ⟨U8, B8⟩ := hcut
      clear U5 B5 Q5 N5 M5 n0 n1 n2 e1 e2 e3 RA PR
      go_upto_region 7 with fail
      refine wp_region_lit ?_
      refine wpList_run_is ?h1 (.pointer (some ⟨g5, 4, none⟩)) ?hr ?_
      case h1 => rfl
      case hr => kernel_rfl
      simp only [Act.put, List.setIfInBounds_toArray, List.set_cons_zero, List.set_cons_succ]
      refine wpList_load_mid ?h1 56 (.tmp 31) ?h2 g5 4 ?h3 [.string M, .int .i64 ov, .int .i64 by_, .bool pr, .int .i64 p0, .int .i64 p1, .int .i64 p2, .int .i64 p3, .int .i64 p4, .int .i64 p5, .int .i64 p6, .bool of, .int .i64 ze, .int .i64 pa] _ (B8.out.range [.int .i64 sg, .bool yy, .slice B1 m1 c1, .slice B2 m2 c2] [.string M, .int .i64 ov, .int .i64 by_, .bool pr, .int .i64 p0, .int .i64 p1, .int .i64 p2, .int .i64 p3, .int .i64 p4, .int .i64 p5, .int .i64 p6, .bool of, .int .i64 ze, .int .i64 pa] [.bool iw, .int .i64 f.exp, .bool f.raised] rfl) Tryz.underlying56 rfl ?hi ?_
      case h1 => rfl
      case h2 => rfl
      case h3 => rfl
      case hi => kernel_rfl
      simp only [Act.put, List.setIfInBounds_toArray, List.set_cons_zero, List.set_cons_succ]
      refine wpList_alloc_is ?h1 56 ?h2 (.agg sr0C) 14 ?hz ?_
      case h1 => rfl
      case h2 => rfl
      case hz => kernel_rfl
      simp only [Act.put, List.setIfInBounds_toArray, List.set_cons_zero, List.set_cons_succ]
      refine wpList_store_new ?h1 56 (.tmp 7) (.tmp 32) ?h2 (w0 := wc) rfl #[.string M, .int .i64 ov, .int .i64 by_, .bool pr, .int .i64 p0, .int .i64 p1, .int .i64 p2, .int .i64 p3, .int .i64 p4, .int .i64 p5, .int .i64 p6, .bool of, .int .i64 ze, .int .i64 pa] ?h3 ?h4 ?hc ?h5 ?h6 ?_
      case h1 => rfl
      case h2 => rfl
      case h3 => rfl
      case h4 => rfl
      case hc => kernel_rfl
      case h5 => rfl
      case h6 => simp [Value.oneCell']
      simp only [Act.put]
      have P10 := Lib.hid (U8.out.grow #[.string M, .int .i64 ov, .int .i64 by_, .bool pr, .int .i64 p0, .int .i64 p1, .int .i64 p2, .int .i64 p3, .int .i64 p4, .int .i64 p5, .int .i64 p6, .bool of, .int .i64 ze, .int .i64 pa] 56)
      have B10 := Lib.hid (Bk.new wc #[.string M, .int .i64 ov, .int .i64 by_, .bool pr, .int .i64 p0, .int .i64 p1, .int .i64 p2, .int .i64 p3, .int .i64 p4, .int .i64 p5, .int .i64 p6, .bool of, .int .i64 ze, .int .i64 pa] 56)
      have g37 : g3 < wc.heap.size := U8.out.lt
      clear U8 B8
      generalize hw7 : World.alloc _ (.cells #[.string M, .int .i64 ov, .int .i64 by_, .bool pr, .int .i64 p0, .int .i64 p1, .int .i64 p2, .int .i64 p3, .int .i64 p4, .int .i64 p5, .int .i64 p6, .bool of, .int .i64 ze, .int .i64 pa] _) = wz0 at *
      clear hw7
      generalize wc.heap.size = g7 at *
      obtain ⟨xe0, xe1, xe2, xe3, xe4, xe5, xe6⟩ := (show wz0.cell? ⟨g7, 4, none⟩ = some (.int .i64 p0) ∧ wz0.cell? ⟨g7, 5, none⟩ = some (.int .i64 p1) ∧ wz0.cell? ⟨g7, 6, none⟩ = some (.int .i64 p2) ∧ wz0.cell? ⟨g7, 7, none⟩ = some (.int .i64 p3) ∧ wz0.cell? ⟨g7, 8, none⟩ = some (.int .i64 p4) ∧ wz0.cell? ⟨g7, 9, none⟩ = some (.int .i64 p5) ∧ wz0.cell? ⟨g7, 10, none⟩ = some (.int .i64 p6) from ⟨B10.out.cell 4, B10.out.cell 5, B10.out.cell 6, B10.out.cell 7, B10.out.cell 8, B10.out.cell 9, B10.out.cell 10⟩)
      have i0 := fun w => (Tryz.ix7 (.int .i64 p0) (.int .i64 p1) (.int .i64 p2) (.int .i64 p3) (.int .i64 p4) (.int .i64 p5) (.int .i64 p6) w).1
      have i1 := fun w => (Tryz.ix7 (.int .i64 p0) (.int .i64 p1) (.int .i64 p2) (.int .i64 p3) (.int .i64 p4) (.int .i64 p5) (.int .i64 p6) w).2.1
      have i2 := fun w => (Tryz.ix7 (.int .i64 p0) (.int .i64 p1) (.int .i64 p2) (.int .i64 p3) (.int .i64 p4) (.int .i64 p5) (.int .i64 p6) w).2.2.1
      have i3 := fun w => (Tryz.ix7 (.int .i64 p0) (.int .i64 p1) (.int .i64 p2) (.int .i64 p3) (.int .i64 p4) (.int .i64 p5) (.int .i64 p6) w).2.2.2.1
      have i4 := fun w => (Tryz.ix7 (.int .i64 p0) (.int .i64 p1) (.int .i64 p2) (.int .i64 p3) (.int .i64 p4) (.int .i64 p5) (.int .i64 p6) w).2.2.2.2.1
      have i5 := fun w => (Tryz.ix7 (.int .i64 p0) (.int .i64 p1) (.int .i64 p2) (.int .i64 p3) (.int .i64 p4) (.int .i64 p5) (.int .i64 p6) w).2.2.2.2.2.1
      have i6 := fun w => (Tryz.ix7 (.int .i64 p0) (.int .i64 p1) (.int .i64 p2) (.int .i64 p3) (.int .i64 p4) (.int .i64 p5) (.int .i64 p6) w).2.2.2.2.2.2
      go_wp2
      clear xe0 xe1 xe2 xe3 xe4 xe5 xe6
      refine wp_loop_rounds 8 ?_
      rw [rounds_succ]
      have cc : wz0.cell? ⟨g3, 6, none⟩ = some (.int .i64 s0) := P10.out.pow0
      have ff := P10.out.six 6
      go_wp2
      have P11 := Lib.hid (P10.out.put0 (s0 + m0'))
      have B11 := Lib.hid (B10.out.set_other (h := g3) (i := 6) (.int .i64 (s0 + m0')) (Nat.ne_of_gt g37))
      clear P10 B10 cc ff
      generalize wz0.setCell ⟨g3, 6, none⟩ (.int .i64 (s0 + m0')) = wz1 at *
      rw [rounds_succ]
      have cc : wz1.cell? ⟨g3, 7, none⟩ = some (.int .i64 s1) := P11.out.pow1
      have ff := P11.out.six 7
      go_wp2
      have P12 := Lib.hid (P11.out.put1 (s1 + m1'))
      have B12 := Lib.hid (B11.out.set_other (h := g3) (i := 7) (.int .i64 (s1 + m1')) (Nat.ne_of_gt g37))
      clear P11 B11 cc ff
      generalize wz1.setCell ⟨g3, 7, none⟩ (.int .i64 (s1 + m1')) = wz2 at *
      rw [rounds_succ]
      have cc : wz2.cell? ⟨g3, 8, none⟩ = some (.int .i64 s2) := P12.out.pow2
      have ff := P12.out.six 8
      go_wp2
      have P13 := Lib.hid (P12.out.put2 (s2 + m2'))
      have B13 := Lib.hid (B12.out.set_other (h := g3) (i := 8) (.int .i64 (s2 + m2')) (Nat.ne_of_gt g37))
      clear P12 B12 cc ff
      generalize wz2.setCell ⟨g3, 8, none⟩ (.int .i64 (s2 + m2')) = wz3 at *
      rw [rounds_succ]
      have cc : wz3.cell? ⟨g3, 9, none⟩ = some (.int .i64 s3) := P13.out.pow3
      have ff := P13.out.six 9
      go_wp2
      have P14 := Lib.hid (P13.out.put3 (s3 + m3'))
      have B14 := Lib.hid (B13.out.set_other (h := g3) (i := 9) (.int .i64 (s3 + m3')) (Nat.ne_of_gt g37))
      clear P13 B13 cc ff
      generalize wz3.setCell ⟨g3, 9, none⟩ (.int .i64 (s3 + m3')) = wz4 at *
      rw [rounds_succ]
      have cc : wz4.cell? ⟨g3, 10, none⟩ = some (.int .i64 s4) := P14.out.pow4
      have ff := P14.out.six 10
      go_wp2
      have P15 := Lib.hid (P14.out.put4 (s4 + m4'))
      have B15 := Lib.hid (B14.out.set_other (h := g3) (i := 10) (.int .i64 (s4 + m4')) (Nat.ne_of_gt g37))
      clear P14 B14 cc ff
      generalize wz4.setCell ⟨g3, 10, none⟩ (.int .i64 (s4 + m4')) = wz5 at *
      rw [rounds_succ]
      have cc : wz5.cell? ⟨g3, 11, none⟩ = some (.int .i64 s5) := P15.out.pow5
      have ff := P15.out.six 11
      go_wp2
      have P16 := Lib.hid (P15.out.put5 (s5 + m5'))
      have B16 := Lib.hid (B15.out.set_other (h := g3) (i := 11) (.int .i64 (s5 + m5')) (Nat.ne_of_gt g37))
      clear P15 B15 cc ff
      generalize wz5.setCell ⟨g3, 11, none⟩ (.int .i64 (s5 + m5')) = wz6 at *
      rw [rounds_succ]
      have cc : wz6.cell? ⟨g3, 12, none⟩ = some (.int .i64 s6) := P16.out.pow6
      have ff := P16.out.six 12
      go_wp2
      have P17 := Lib.hid (P16.out.put6 (s6 + m6'))
      have B17 := Lib.hid (B16.out.set_other (h := g3) (i := 12) (.int .i64 (s6 + m6')) (Nat.ne_of_gt g37))
      clear P16 B16 cc ff
      generalize wz6.setCell ⟨g3, 12, none⟩ (.int .i64 (s6 + m6')) = wz7 at *
      dsimp only at P17
      have z11 : wz7.cell? ⟨g7, 11, none⟩ = some (.bool of) := B17.out.cell 11
      have z12 : wz7.cell? ⟨g7, 12, none⟩ = some (.int .i64 ze) := B17.out.cell 12
      have z13 : wz7.cell? ⟨g7, 13, none⟩ = some (.int .i64 pa) := B17.out.cell 13
      cases of
      · have HO1 := HOh.out
        rw [if_neg (by decide)] at HO1
        have HO2 := Lib.hid HO1
        clear HO1 HOh FR
        rw [rounds_succ]
        go_wp2
        go_roundw
        case rel => exact ⟨k + 1, by omega, by go_num, by rw [HSh.out, HQh.out, HO2.out]; exact P17⟩
        case measure => simp only [intOf]; omega
      · have HO1 := HOh.out
        rw [if_pos rfl] at HO1
        unfold Sr.ofs at HO1
        dsimp only at HO1
        rw [if_pos rfl] at HO1
        obtain ⟨o2, ho2⟩ : ∃ x : Rat, (ze : Rat) / (pa : Rat) = x := ⟨_, rfl⟩
        rw [ho2] at HO1
        simp only [ho2] at FR
        have HO2 := Lib.hid HO1
        clear ho2 HO1 HOh
        rw [rounds_succ]
        go_wp2_with (go_at_call 40; go_loud ((with_reducible refine (FR _).mono ?_); rintro e9 w9 ⟨z9, D1, r1, h1, D2, r2, h2, rfl, hb, hq⟩; have U9 := Lib.hid (P17.out.up hb); have Q9 := Lib.hid hq; obtain ⟨y, A1, l1, d1, A2, l2, d2, y', A3, l3, d3, A4, l4, d4, hb4, _⟩ := U9.out.2.2.2; obtain ⟨n3, n4, n5, f3, f4, f5⟩ := (show w9.cell? ⟨g3, 3, none⟩ = some (.bool y') ∧ w9.cell? ⟨g3, 4, none⟩ = some (.slice A3 l3 d3) ∧ w9.cell? ⟨g3, 5, none⟩ = some (.slice A4 l4 d4) ∧ w9.frozen? ⟨g3, 3, none⟩ = false ∧ w9.frozen? ⟨g3, 4, none⟩ = false ∧ w9.frozen? ⟨g3, 5, none⟩ = false from ⟨hb4.cell 3, hb4.cell 4, hb4.cell 5, hb4.frozen 3, hb4.frozen 4, hb4.frozen 5⟩); clear hb hq hb4))
        have U10 := Lib.hid (U9.out.putO Q9.out)
        go_roundw
        case rel => exact ⟨k + 1, by omega, by go_num, by rw [HSh.out, HQh.out, HO2.out]; exact U10⟩
        case measure => simp only [intOf]; omega
end Go.Proofs.YthjnmnepjeegiaaGreatDoor
