/- Texts Shp RfC RfD -/
import Derived.Test.YtnablanoaglioaaGreatDoorZ
import Derived.Test.YtnablanoaglioaaGreatDoorG30
import Derived.Test.YtnablanoaglioaaGreatDoorG21
namespace Go.Proofs.YtnablanoaglioaaGreatDoor
open Go.RowKit Dg Q Num Str

theorem woken_shape : shapeB wokenS (bl ⟨#[47]⟩) ⟨⟨#[118]⟩, 1, [⟨#[116]⟩], [2], ⟨#[48]⟩, ⟨#[109]⟩, [], []⟩ = some [2] := by decide +kernel
set_option maxRecDepth 100000 in
set_option maxHeartbeats 6400000 in
theorem shape_w (v : Value) (w : World) (hV : VSchema w w.heap.size v wokenS) (hw : Ws w) :
    Calls Tryz.prog 25 #[.agg #[v], .string ⟨#[47]⟩, .string ⟨#[118]⟩] w fun e w' => ∃ A c, e = .returned (.tuple #[.slice A 1 c, .int .i64 0]) ∧ VL kInt 1 w' w'.heap.size (.slice A 1 c) [2] ∧ Below w.heap.size w w' := by
  have FI := fun w' (hb : Below w.heap.size w w') => find_w v w' ((VL.keeps kGroup_keeps hV hb).lifts kGroup_lifts hb.size) (hw.up hb)
  have SH := fun w' E1 d1 E2 d2 E3 d3 E4 d4 (hb : Below w.heap.size w w') (h1 : VL kStr 1 w' w'.heap.size (.slice E1 1 d1) [⟨#[116]⟩]) => (show Calls Tryz.prog 47 #[.agg #[v], .string ⟨#[47]⟩, .agg #[.string ⟨#[118]⟩, .int .i64 1, .slice E1 1 d1, .slice E2 1 d2, .string ⟨#[48]⟩, .string ⟨#[109]⟩, .slice E3 0 d3, .slice E4 0 d4]] w' (ShapeR (some [2]) w') by
    have h := shape_any v wokenS ⟨#[47]⟩ ⟨⟨#[118]⟩, 1, [⟨#[116]⟩], [2], ⟨#[48]⟩, ⟨#[109]⟩, [], []⟩ (.slice E1 1 d1) (.slice E2 1 d2) (.slice E3 0 d3) (.slice E4 0 d4) w' ((VL.keeps kGroup_keeps hV hb).lifts kGroup_lifts hb.size) (by decide) h1 (by decide) (hw.up hb)
    rw [woken_shape] at h
    exact h)
  obtain ⟨A0, n0, c0, rfl, hn0, _⟩ := id hV
  have hn1 : n0 = 1 := hn0.symm
  subst hn1
  clear hV hw hn0
  go_enter Tryz.func25, Tryz.ntmps25
  go_wp2_with (first
    | (go_at_call 47; go_loud ((with_reducible refine (SH _ E1 d1 E2 d2 E3 d3 E4 d4 (by (repeat (first | exact zJ _ _ | assumption | refine below_drewN ?_ _ | refine zL ?_ | refine btrans ?_ (by assumption) | refine below_alloc ?_ _ | refine zO ?_ (by simp <;> omega) _ | refine zP ?_ (by simp <;> omega) _))) ((VL.keeps kStr_keeps V1.out (by (repeat (first | exact zJ _ _ | assumption | refine below_drewN ?_ _ | refine zL ?_ | refine btrans ?_ (by assumption) | refine below_alloc ?_ _ | refine zO ?_ (by simp <;> omega) _ | refine zP ?_ (by simp <;> omega) _)))).lifts kStr_lifts (Below.size (B := w1.heap.size) (by (repeat (first | exact zJ _ _ | assumption | refine below_drewN ?_ _ | refine zL ?_ | refine btrans ?_ (by assumption) | refine below_alloc ?_ _ | refine zO ?_ (by simp <;> omega) _ | refine zP ?_ (by simp <;> omega) _)))))).mono ?_); rintro e w2 ⟨hb, vv, rfl, hr⟩; have hvl := Lib.hid (hr.vl (fun z hz => by rw [List.mem_singleton.1 hz]; exact ⟨by decide, by decide⟩) (by decide)); have b2 : Hid (Below w.heap.size w w2) := Lib.hid (by (repeat (first | exact zJ _ _ | assumption | refine below_drewN ?_ _ | refine zL ?_ | refine btrans ?_ (by assumption) | refine below_alloc ?_ _ | refine zO ?_ (by simp <;> omega) _ | refine zP ?_ (by simp <;> omega) _))); clear hb hr))
    | (go_at_call 22; go_loud ((with_reducible refine (FI _ (by (repeat (first | exact zJ _ _ | assumption | refine below_drewN ?_ _ | refine zL ?_ | refine btrans ?_ (by assumption) | refine below_alloc ?_ _ | refine zO ?_ (by simp <;> omega) _ | refine zP ?_ (by simp <;> omega) _)))).mono ?_); rintro e w1 ⟨E1, d1, E2, d2, E3, d3, E4, d4, rfl, h1, h2, h3, h4, hb⟩; have k0 : w1.cell? ⟨w.heap.size, 0, none⟩ = some (.slice A0 1 c0) := (hb.cell (p := ⟨w.heap.size, 0, none⟩) (by simp)).trans (by go_keep); have b1 : Below w.heap.size w w1 := (by (repeat (first | exact zJ _ _ | assumption | refine below_drewN ?_ _ | refine zL ?_ | refine btrans ?_ (by assumption) | refine below_alloc ?_ _ | refine zO ?_ (by simp <;> omega) _ | refine zP ?_ (by simp <;> omega) _))); have V1 := Lib.hid h1; have z1 : w.heap.size < w1.heap.size := World.block_lt_of_cell? _ _ k0; clear hb h1 h2 h3 h4)))
  go_ret2
  obtain ⟨A, c, rfl, _, _⟩ := hvl.out.val
  exact ⟨A, c, rfl, hvl.out, b2.out⟩
end Go.Proofs.YtnablanoaglioaaGreatDoor
namespace Go.Proofs.YtnablanoaglioaaGreatDoor
open Go.RowKit Dg Q Num Str

theorem Tryz.infoStrR : (Tryz.prog.info? 9).map (fun i => (i.zero, i.size, i.bytes)) = some (some (.string ⟨#[]⟩), 1, 16) := by kernel_rfl
def strLen : Value → Nat
  | .string s => s.size
  | _ => 0
def NamQ (X : Bool) (l : List UInt8) (b : Nat) (w' : World) (A : Option Addr) (n c : Nat) : Prop := X = true → (l = [47] ∧ n = 0) ∨ ∃ t qs, t ≠ [] ∧ l = 47 :: t ∧ qs.map bl = spl 47 t ∧ n = qs.length ∧ OL kStr 1 9 b w' 0 (.slice A n c) qs
def NamR (l : List UInt8) (w : World) (e : Ending) (w' : World) : Prop := Below w.heap.size w w' ∧ ∃ A n c, e = .returned (.tuple #[.slice A n c, .bool (pathB l)]) ∧ NamQ (pathB l) l w.heap.size w' A n c
def NamI (t : List UInt8) (P : ByteArray) (qs : List ByteArray) : Prop := (bl P = [] ∧ qs.map bl = spl 47 t) ∨ ∃ r, bl P = 47 :: r ∧ spl 47 t = qs.map bl ++ spl 47 r
theorem NamI.next {t : List UInt8} {P : ByteArray} {qs : List ByteArray} {m : Nat} (h : NamI t P qs) (hm1 : 1 ≤ m) (hm : m ≤ P.size) (hn : (47 : UInt8) ∉ ((bl P).drop 1).take (m - 1)) (he : m = P.size ∨ (bl P)[m]? = some 47) : NamI t (P.extract m P.size) (qs ++ [P.extract 1 m]) := by
  have hz : (bl P).length = P.size := bl_len P
  rcases h with ⟨h1, _⟩ | ⟨r, h1, h2⟩
  · rw [h1] at hz
    simp at hz
    omega
  · have e1 : bl (P.extract 1 m) = r.take (m - 1) := by rw [bl_cut, h1, List.drop_succ_cons, List.drop_zero]
    have e2 : bl (P.extract m P.size) = r.drop (m - 1) := by
      rw [drop_ext, h1]
      obtain ⟨j, rfl⟩ : ∃ j, m = j + 1 := ⟨m - 1, by omega⟩
      rw [List.drop_succ_cons, Nat.add_sub_cancel]
    rw [h1, List.drop_succ_cons, List.drop_zero] at hn
    have hr : r.length + 1 = P.size := by rw [← hz, h1]; rfl
    rcases he with he | he
    · left
      have e3 : r.take (m - 1) = r := List.take_of_length_le (by omega)
      rw [e3] at e1 hn
      refine ⟨by rw [e2, List.drop_eq_nil_iff]; omega, ?_⟩
      rw [List.map_append, List.map_cons, List.map_nil, e1, h2, spl_none hn]
    · right
      rw [h1] at he
      obtain ⟨j, rfl⟩ : ∃ j, m = j + 1 := ⟨m - 1, by omega⟩
      rw [List.getElem?_cons_succ] at he
      rw [Nat.add_sub_cancel] at e1 e2 hn
      have hj : j < r.length := (List.getElem?_eq_some_iff.1 he).1
      have e4 : r.drop j = 47 :: r.drop (j + 1) := by
        rw [List.drop_eq_getElem_cons hj]
        congr 1
        exact (List.getElem?_eq_some_iff.1 he).2
      refine ⟨r.drop (j + 1), by rw [e2, e4], ?_⟩
      have e5 : r = r.take j ++ 47 :: r.drop (j + 1) := by rw [← e4, List.take_append_drop]
      rw [List.map_append, List.map_cons, List.map_nil, e1, h2, List.append_assoc]
      congr 1
      conv => lhs; rw [e5]
      rw [spl_hit hn]
      rfl
theorem flat_one : ∀ qs : List ByteArray, (qs.map (fun q => [Value.string q])).flatten = qs.map .string
  | [] => rfl
  | a :: l => by rw [List.map_cons, List.flatten_cons, flat_one l]; rfl
theorem take_no {l : List UInt8} {m : Nat} (h : (47 : UInt8) ∉ l.take m) {c : UInt8} (hc : l[m]? = some c) (hne : c ≠ 47) : (47 : UInt8) ∉ l.take (m + 1) := by
  rw [List.take_add_one, hc, List.mem_append]
  rintro (a | a)
  · exact h a
  · simp at a
    exact hne a.symm

theorem all_snocN {l : List (List UInt8)} {k : Nat} {x : List UInt8} (h : (l.take k).all nameB = true) (hk : l[k]? = some x) (hx : nameB x = true) : (l.take (k + 1)).all nameB = true := by
  rw [List.take_add_one, hk, List.all_append, h]
  simp [hx]
theorem own_formR {w : World} {base e m n : Nat} {v : Value} {xs : List Value} (h : w.ownsRow base e m v (n + 1) xs) : ∃ g cap, v = .slice (some ⟨g, 0, none⟩) (n + 1) cap ∧ base ≤ g ∧ g < w.heap.size := by
  rcases h.2 with ⟨_, hn⟩ | ⟨g, cap, cur, hv, hb, hg, _⟩
  · omega
  · exact ⟨g, cap, hv, hb, (Array.getElem?_eq_some_iff.1 hg).1⟩

set_option maxRecDepth 100000 in
set_option maxHeartbeats 6400000 in
theorem rnames_any (S : ByteArray) (hs : S.size ≤ 4000000000) (w : World) : Calls Tryz.prog 40 #[.string S] w (NamR (bl S) w) := by
  have h47 : (S.toList == [47]) = decide (bl S = [47]) := eqS S [47]
  by_cases hr : bl S = [47]
  · have hx : pathB (bl S) = true := by rw [hr]; rfl
    unfold NamR
    rw [hx]
    rw [decide_eq_true hr] at h47
    have HR := Lib.hid hr
    clear hx hr
    go_enter Tryz.func40, Tryz.ntmps40
    go_wp2
    go_ret2
    exact ⟨Below.refl _ _, none, 0, 0, rfl, fun _ => .inl ⟨HR.out, rfl⟩⟩
  rw [decide_eq_false hr] at h47
  have hes : ∀ P : ByteArray, P.toList.isEmpty = decide (bl P = []) := emptyS
  cases hl : bl S with
  | nil =>
    have hp : pathB ([] : List UInt8) = false := rfl
    have he0 := hes S
    rw [decide_eq_true hl] at he0
    unfold NamR
    rw [hp]
    clear hl hr hes
    go_enter Tryz.func40, Tryz.ntmps40
    go_wp2
    refine wp_loop_rounds 1 ?_
    rw [rounds_succ]
    go_wp2
    refine wp_loop_rounds 1 ?_
    rw [rounds_succ]
    go_wp2
    go_ret2
    exact ⟨Below.refl _ _, none, 0, 0, rfl, fun h => by cases h⟩
  | cons c0 t =>
    have hlen : S.size = t.length + 1 := by rw [← bl_len, hl]; rfl
    have h0 : 0 < S.size := by omega
    have hi0 : (0 : Int) < (S.size : Int) := by omega
    have hc0 : S[0] = c0 := by
      have := bl_at S 0 h0
      rw [hl] at this
      injection this with this
      exact this.symm
    have he0 := hes S
    rw [hl, decide_eq_false (by simp)] at he0
    by_cases h7 : c0 = 47
    case neg =>
      have hp : pathB (c0 :: t) = false := path_no (by simpa using h7)
      have g7 : ¬ (S[0].toNat : Int) = 47 := by
        rw [hc0]
        intro h
        exact h7 ((byte_eq c0 47).1 h)
      unfold NamR
      rw [hp]
      clear hl hr hes h7 hc0
      go_enter Tryz.func40, Tryz.ntmps40
      go_wp2
      refine wp_loop_rounds 1 ?_
      rw [rounds_succ]
      go_wp2
      go_ret2
      exact ⟨Below.refl _ _, none, 0, 0, rfl, fun h => by cases h⟩
    subst h7
    have hne : t ≠ [] := fun e => hr (by rw [hl, e])
    obtain ⟨X, hX⟩ : ∃ X, pathB (47 :: t) = X := ⟨_, rfl⟩
    unfold NamR
    rw [hX]
    have HX := Lib.hid (show ∀ qs : List ByteArray, qs.map bl = spl 47 t → X = ((qs.map bl).all nameB && decide (qs.length ≤ 4)) from fun qs h => by
      rw [← hX, path_yes h.symm hne, List.length_map])
    have HI := Lib.hid (show NamI t S [] from .inr ⟨t, hl, rfl⟩)
    have HT := Lib.hid (And.intro hl hne)
    obtain ⟨i0, hi, hz0, hz1, hz2⟩ := info_parts Tryz.infoStrR
    have RV := fun T hT w' => rvname_any T hT w'
    have ZP := Lib.hid (show ∀ P : ByteArray, (P.size : Int) = 0 → P.toList.isEmpty = true from fun P h => by rw [emptyS, decide_eq_true (List.eq_nil_of_length_eq_zero (by rw [bl_len]; omega))])
    have ZN := Lib.hid (show ∀ P : ByteArray, ¬ (P.size : Int) = 0 → P.toList.isEmpty = false from fun P h => by rw [emptyS, decide_eq_false (fun e => h (by rw [← bl_len, e]; rfl))])
    have hsz := Lib.hid hs
    clear hl hr hes hX hlen h0 hi0 hc0 he0 hne hs
    go_enter Tryz.func40, Tryz.ntmps40
    go_wp2
    go_loopw [0, 4] (fun p o wr => ∃ (P : ByteArray) (qs : List ByteArray), p = .string P ∧ Hid (wr.ownsRow w.heap.size 9 1 o qs.length (qs.map .string)) ∧ Hid (Below w.heap.size w wr) ∧ qs.length + P.size ≤ S.size ∧ Hid (NamI t P qs)) (fun p _ _ => strLen p)
    case atStart => exact ⟨S, [], rfl, Lib.hid (World.ownsRow_nil _ _ _ _), Lib.hid (Below.refl _ _), by simp, HI⟩
    case round =>
      obtain ⟨P, qs, rfl, hO, hB, hqs, hN⟩ := hrel
      have hsz' := hsz.out
      by_cases hpz : (P.size : Int) = 0
      · have hpe := ZP.out P hpz
        have hqm : qs.map bl = spl 47 t := by
          rcases hN.out with ⟨_, h⟩ | ⟨r, h, _⟩
          · exact h
          · exfalso
            have := bl_len P
            rw [h] at this
            simp at this
            omega
        have hx := HX.out qs hqm
        have hq0 : qs ≠ [] := fun e => spl_ne 47 t (by rw [← hqm, e]; rfl)
        obtain ⟨nq, hnq⟩ : ∃ nq, qs.length = nq + 1 := ⟨qs.length - 1, by have := List.length_pos_iff.2 hq0; omega⟩
        obtain ⟨g, cap, rfl, hg1, hg2⟩ := own_formR (n := nq) (by rw [← hnq]; exact hO.out)
        have HQ := Lib.hid hqm
        have hcell : ∀ (k : Nat) (q : ByteArray), qs[k]? = some q → wr.cell? ⟨g, k, none⟩ = some (.string q) := fun k q hk => by
          have hc := hO.out.cells (g := g) rfl k (.string q) (by rw [List.getElem?_map, hk]; rfl)
          have ha : (⟨g, 0, none⟩ : Addr).add k = ⟨g, k, none⟩ := by unfold Addr.add; split <;> simp_all
          rwa [ha] at hc
        have hcap : nq + 1 ≤ cap := by
          rcases hO.out.2 with ⟨h, _⟩ | ⟨g', cap', cur, h, _, _, h5, _⟩
          · cases h
          · injection h with _ _ h
            subst h
            omega
        have HC := Lib.hid hcell
        have hqb : nq + 1 ≤ 4000000000 := by omega
        have HOL := Lib.hid (show OL kStr 1 9 w.heap.size wr 0 (.slice (some ⟨g, 0, none⟩) qs.length cap) qs from ⟨qs.map (fun q => [.string q]), by simp, fun k q hk => ⟨[.string q], by rw [List.getElem?_map, hk]; rfl, rfl, rfl, by
          have := spl_le rfl (bl q) (by rw [← hqm]; exact List.mem_map_of_mem (List.mem_of_getElem? hk))
          have h1 := bl_len q
          have h2 := bl_len S
          rw [HT.out.1, List.length_cons] at h2
          omega⟩, by
            rw [flat_one, hnq]; have h := hO.out; rw [hnq] at h; exact h⟩)
        have HL := Lib.hid (show ∀ (k : Nat) (q : ByteArray), qs[k]? = some q → q.size ≤ 9223372036854775807 from fun k q hk => by
          have := spl_le rfl (bl q) (by rw [← hqm]; exact List.mem_map_of_mem (List.mem_of_getElem? hk))
          have h1 := bl_len q
          have h2 := bl_len S
          rw [HT.out.1, List.length_cons] at h2
          omega)
        have HX2 := Lib.hid hx
        have HNQ := Lib.hid hnq
        clear hN hqm hx hq0 hO hcell HX HI hz0 hz1 hz2 hi ZP ZN hqs hnq
        go_wp2
        go_loopw [38] (fun i wx => ∃ k : Nat, k ≤ nq + 1 ∧ i = .int .i64 (k : Int) ∧ wr = wx ∧ Hid (((qs.map bl).take k).all nameB = true)) (fun i _ => (nq + 1 - intOf i).toNat)
        case atStart => exact ⟨0, Nat.zero_le _, rfl, by first | rfl | trivial, Lib.hid rfl⟩
        case round =>
          obtain ⟨k, hk, rfl, rfl, hA⟩ := hrel
          by_cases hkn : k = nq + 1
          · subst hkn
            have hx : X = decide (qs.length ≤ 4) := by
              have h1 := hA.out
              rw [← HNQ.out, List.take_of_length_le (by rw [List.length_map]; exact Nat.le_refl _)] at h1
              rw [HX2.out, h1, Bool.true_and]
            rw [HNQ.out] at hx
            by_cases h4 : ((nq : Int) + 1) ≤ 4
            · rw [decide_eq_true (by omega)] at hx
              subst hx
              have HB := Lib.hid hB
              clear hA HX2
              go_wp2
              go_ret2
              exact ⟨HB.out.out, _, _, _, rfl, fun _ => .inr ⟨t, qs, HT.out.2, rfl, HQ.out, HNQ.out.symm, by have := HOL.out; rwa [HNQ.out] at this⟩⟩
            · rw [decide_eq_false (by omega)] at hx
              subst hx
              clear hA HX2
              go_wp2
              go_ret2
              exact ⟨hB.out, _, _, _, rfl, fun h => by cases h⟩
          · have hlt : k < nq + 1 := by omega
            have hi : (k : Int) < ((nq + 1 : Nat) : Int) := by omega
            have hi' : (k : Int) < (nq : Int) + 1 := by omega
            obtain ⟨q, hq⟩ : ∃ q, qs[k]? = some q := ⟨_, List.getElem?_eq_getElem (by rw [HNQ.out]; exact hlt)⟩
            have hck := HC.out k q hq
            have RQ := fun w' => RV q (HL.out k q hq) w'
            have hmq : (qs.map bl)[k]? = some (bl q) := by rw [List.getElem?_map, hq]; rfl
            have HK := Lib.hid hk
            cases hv : nameB (bl q)
            · rw [hv] at RQ
              have hx : X = false := by
                rw [HX2.out]
                have : (qs.map bl).all nameB = false := by
                  rw [List.all_eq_false]
                  exact ⟨bl q, List.mem_of_getElem? hmq, by rw [hv]; exact Bool.false_ne_true⟩
                rw [this, Bool.false_and]
              subst hx
              clear hA HX2 hq hmq hv HC HL RV hk
              go_wp2_with (go_at_call 12; go_loud ((with_reducible refine (RQ _).mono ?_); rintro e w1 ⟨rfl, rfl⟩))
              go_ret2
              exact ⟨hB.out, _, _, _, rfl, fun h => by cases h⟩
            · rw [hv] at RQ
              have HA2 := Lib.hid (all_snocN hA.out hmq hv)
              clear hA hq hmq hv HC HL RV hk
              go_wp2_with (go_at_call 12; go_loud ((with_reducible refine (RQ _).mono ?_); rintro e w1 ⟨rfl, rfl⟩))
              go_roundw
              case measure => simp only [intOf]; omega
              case rel => exact ⟨k + 1, by omega, by simp, by first | rfl | trivial, HA2⟩
      · have hpe := ZN.out P hpz
        obtain ⟨r, hr⟩ : ∃ r, bl P = 47 :: r := by
          rcases hN.out with ⟨h, _⟩ | ⟨r, h, _⟩
          · exact absurd (by rw [← bl_len, h]; rfl : (P.size : Int) = 0) hpz
          · exact ⟨r, h⟩
        have hp0 : 0 < P.size := by omega
        have hp0' : (0 : Int) < (P.size : Int) := by omega
        have hpc : (P[0].toNat : Int) = 47 := by
          have h := bl_at P 0 hp0
          rw [hr] at h
          injection h with h
          rw [← h]; rfl
        have HRR := Lib.hid hr
        have hps : (P.size : Int) ≤ 4000000000 := by omega
        clear hr HX
        go_wp2
        go_loopw [5] (fun i wx => ∃ m : Nat, 1 ≤ m ∧ m ≤ P.size ∧ i = .int .i64 (m : Int) ∧ wr = wx ∧ Hid ((47 : UInt8) ∉ ((bl P).drop 1).take (m - 1))) (fun i _ => (P.size - intOf i).toNat)
        case atStart => exact ⟨1, Nat.le_refl _, hp0, rfl, by first | rfl | trivial, Lib.hid (by simp)⟩
        case round =>
          obtain ⟨m, hm1, hm2, rfl, rfl, hA⟩ := hrel
          have gm1 : (1 : Int) ≤ (m : Int) := by omega
          have gm2 : (m : Int) ≤ (P.size : Int) := by omega
          by_cases hmn : m = P.size
          · have hgm : ¬ (m : Int) < (P.size : Int) := by omega
            have HN2 := Lib.hid (hN.out.next hm1 hm2 hA.out (.inl hmn))
            subst hmn
            clear hA hN
            obtain ⟨Q, hQ⟩ : ∃ Q, P.extract 1 P.size = Q := ⟨_, rfl⟩
            have hR : P.extract P.size P.size = ByteArray.empty := by simp
            have hRz : ByteArray.empty.size + 1 ≤ P.size := by
              have : ByteArray.empty.size = 0 := rfl
              omega
            rw [hQ, hR] at HN2
            go_wp2_with (at_builtin; go_loud (refine wpList_append_own_at _ rfl (.tmp 27) (.tmp 31) _ rfl w.heap.size 9 i0 (.string ⟨#[]⟩) 1 16 Tryz.underlying32 hi hz0 hz1 hz2 rfl (by decide) _ _ _ rfl (hO.out.alloc _) ⟨wr.heap.size, 0, none⟩ 1 1 [.string Q] rfl rfl (cellsL_new _ [.string Q] _) (by simp [Value.oneCell']) (by unfold maxLen; omega) (by omega) (below_alloc hB.out _).size ?_; intro v2 w2 a2 g2 m2 l2; have B2 := Lib.hid (grown_below (hO.out.alloc _) (below_alloc hB.out _) g2); have A2 := Lib.hid a2; clear a2 g2 m2 l2))
            go_roundw
            case measure => simp only [strLen]; omega
            case rel => exact ⟨ByteArray.empty, qs ++ [Q], rfl, Lib.hid (by have h := A2.out; rw [List.length_append, List.map_append]; exact h), B2, by rw [List.length_append]; simp only [List.length_cons, List.length_nil]; omega, HN2⟩
          · have hlt : m < P.size := by omega
            have hgm : (m : Int) < (P.size : Int) := by omega
            have hb := bl_at P m hlt
            by_cases h7 : (P[m].toNat : Int) = 47
            · have HN2 := Lib.hid (hN.out.next hm1 hm2 hA.out (.inr (by rw [hb, (byte_eq P[m] 47).1 h7])))
              clear hb
              clear hA hN
              obtain ⟨Q, hQ⟩ : ∃ Q, P.extract 1 m = Q := ⟨_, rfl⟩
              obtain ⟨R, hR⟩ : ∃ R, P.extract m P.size = R := ⟨_, rfl⟩
              have hRz : R.size + 1 ≤ P.size := by
                rw [← hR, ← bl_len, drop_ext, List.length_drop, bl_len]
                omega
              rw [hQ, hR] at HN2
              go_wp2_with (at_builtin; go_loud (refine wpList_append_own_at _ rfl (.tmp 27) (.tmp 31) _ rfl w.heap.size 9 i0 (.string ⟨#[]⟩) 1 16 Tryz.underlying32 hi hz0 hz1 hz2 rfl (by decide) _ _ _ rfl (hO.out.alloc _) ⟨wr.heap.size, 0, none⟩ 1 1 [.string Q] rfl rfl (cellsL_new _ [.string Q] _) (by simp [Value.oneCell']) (by unfold maxLen; omega) (by omega) (below_alloc hB.out _).size ?_; intro v2 w2 a2 g2 m2 l2; have B2 := Lib.hid (grown_below (hO.out.alloc _) (below_alloc hB.out _) g2); have A2 := Lib.hid a2; clear a2 g2 m2 l2))
              go_roundw
              case measure => simp only [strLen]; omega
              case rel => exact ⟨R, qs ++ [Q], rfl, Lib.hid (by have h := A2.out; rw [List.length_append, List.map_append]; exact h), B2, by rw [List.length_append]; simp only [List.length_cons, List.length_nil]; omega, HN2⟩
            · have HA2 := Lib.hid (show (47 : UInt8) ∉ ((bl P).drop 1).take (m + 1 - 1) by
                have hd : ((bl P).drop 1)[m - 1]? = some P[m] := by rw [List.getElem?_drop, show 1 + (m - 1) = m by omega]; exact hb
                have h := take_no hA.out hd (fun e => h7 (by rw [e]; rfl))
                rwa [show m - 1 + 1 = m + 1 - 1 by omega] at h)
              clear hb hA
              go_wp2
              go_roundw
              case measure => simp only [intOf]; omega
              case rel => exact ⟨m + 1, by omega, by omega, by simp, by first | rfl | trivial, HA2⟩

theorem rvpath_any (S : ByteArray) (hs : S.size ≤ 4000000000) (w : World) : Calls Tryz.prog 14 #[.string S] w fun e w' => e = .returned (.bool (pathB (bl S))) ∧ Below w.heap.size w w' := by
  have NA := rnames_any S hs w
  go_enter Tryz.func14, Tryz.ntmps14
  go_wp2_with (go_at_call 40; go_loud ((with_reducible refine NA.mono ?_); rintro e w1 ⟨hb, A, n, c, rfl, h⟩; have B1 := Lib.hid hb; clear h hb))
  go_ret
  exact ⟨rfl, B1.out⟩
end Go.Proofs.YtnablanoaglioaaGreatDoor
namespace Go.Proofs.YtnablanoaglioaaGreatDoor
open Go.RowKit Dg Q Num Str

theorem spl_many (c : UInt8) : ∀ l : List UInt8, (spl c l).length ≤ l.length + 1
  | [] => Nat.le_refl _
  | x :: l => by
    have ih := spl_many c l
    unfold spl
    split
    · rw [List.length_cons, List.length_cons]; omega
    · cases h : spl c l with
      | nil => simp
      | cons p ps => rw [h] at ih; simp only [List.length_cons] at ih ⊢; omega
theorem own_cap {w : World} {base e m n g c : Nat} {xs : List Value} (h : w.ownsRow base e m (.slice (some ⟨g, 0, none⟩) n c) n xs) : n ≤ c := by
  rcases h.2 with ⟨h, _⟩ | ⟨g', cap', cur, h, _, _, h5, _⟩
  · cases h
  · injection h with _ _ h
    subst h
    exact h5
theorem nam_last {l : List UInt8} {S : ByteArray} (hl : bl S = l) (hs : S.size ≤ 4000000000) (hp : pathB l = true) (hr : l ≠ [47]) {w w' : World} {e : Ending} (h : NamR l w e w') : Below w.heap.size w w' ∧ ∃ (g n c : Nat) (q : ByteArray) (pre : List UInt8), e = .returned (.tuple #[.slice (some ⟨g, 0, none⟩) (n + 1) c, .bool true]) ∧ w'.cell? ⟨g, n, none⟩ = some (.string q) ∧ n + 1 ≤ c ∧ n ≤ 4000000000 ∧ pre.length + 1 + q.size = S.size ∧ slashL l = pre.length := by
  obtain ⟨hb, A, n, c, rfl, h⟩ := h
  refine ⟨hb, ?_⟩
  rcases h hp with ⟨h1, _⟩ | ⟨t, qs, h1, h2, h3, h4, h5⟩
  · exact absurd h1 hr
  have hq0 : qs ≠ [] := fun e => spl_ne 47 t (by rw [← h3, e]; rfl)
  obtain ⟨nq, hnq⟩ : ∃ nq, qs.length = nq + 1 := ⟨qs.length - 1, by have := List.length_pos_iff.2 hq0; omega⟩
  obtain ⟨rows, r1, r2, r3⟩ := h5
  rw [hnq] at h4 r3
  subst h4
  obtain ⟨g, cap, hv, _, _⟩ := own_formR (n := nq) r3
  injection hv with e1 _ e3
  subst e1 e3
  obtain ⟨q, hq⟩ : ∃ q, qs[nq]? = some q := ⟨_, List.getElem?_eq_getElem (by omega)⟩
  obtain ⟨vs, g1, g2, g3⟩ := r2 nq q hq
  obtain ⟨rfl, hqz⟩ := g3
  have hlast : (qs.map bl).getLast? = some (bl q) := by
    rw [List.getLast?_eq_getElem?, List.length_map, hnq, Nat.add_sub_cancel, List.getElem?_map, hq]
    rfl
  obtain ⟨pre, hpre, hno⟩ := spl_last h3.symm (bl q) hlast
  have hz : pre.length + 1 + q.size = S.size := by
    have h6 := bl_len S
    rw [hl, h2, hpre, List.length_append, List.length_cons, bl_len] at h6
    omega
  refine ⟨g, nq, c, q, pre, by rw [hp], ?_, own_cap r3, ?_, hz, by rw [h2, hpre]; exact slashL_at hno⟩
  · have hc := r3.cells (g := g) rfl nq (.string q) (by
      have h7 := rflat_at (m := 1) (rows := rows) (k := nq) (j := 0) (rows_len r1 r2) g1 (by decide)
      rw [Nat.mul_one, Nat.add_zero] at h7
      rw [h7]; rfl)
    have ha : (⟨g, 0, none⟩ : Addr).add nq = ⟨g, nq, none⟩ := by unfold Addr.add; split <;> simp_all
    rwa [ha] at hc
  · have h9 : (qs.map bl).length ≤ t.length + 1 := by rw [h3]; exact spl_many 47 t
    have h10 := bl_len S
    rw [hl, h2, List.length_cons] at h10
    rw [List.length_map] at h9
    omega

set_option maxRecDepth 100000 in
set_option maxHeartbeats 3200000 in
theorem rparent_any (S : ByteArray) (hs : S.size ≤ 4000000000) (w : World) : Calls Tryz.prog 10 #[.string S] w (ParR (parentB (bl S)) w) := by
  have NA := rnames_any S hs w
  cases hp : pathB (bl S)
  · have hx : parentB (bl S) = none := by unfold parentB; rw [if_pos (.inr hp)]
    rw [hx]
    unfold NamR at NA
    rw [hp] at NA
    clear hp hx
    go_enter Tryz.func10, Tryz.ntmps10
    go_wp2_with (go_at_call 40; go_loud ((with_reducible refine NA.mono ?_); rintro e w1 ⟨hb, A, n, c, rfl, h⟩; have B1 := Lib.hid hb; clear h hb))
    go_ret2
    exact ⟨B1.out, rfl⟩
  by_cases hr : bl S = [47]
  · have hx : parentB (bl S) = none := by unfold parentB; rw [if_pos (.inl hr)]
    rw [hx]
    have NA2 := NA.mono fun e w' (h : NamR (bl S) w e w') => (show Below w.heap.size w w' ∧ ∃ A c, e = .returned (.tuple #[.slice A 0 c, .bool true]) by
      obtain ⟨hb, A, n, c, rfl, h⟩ := h
      rcases h hp with ⟨_, rfl⟩ | ⟨t, qs, h1, h2, _⟩
      · exact ⟨hb, A, c, by rw [hp]⟩
      · rw [hr] at h2
        injection h2 with _ h2
        exact absurd h2.symm h1)
    clear hp hx hr NA
    go_enter Tryz.func10, Tryz.ntmps10
    go_wp2_with (go_at_call 40; go_loud ((with_reducible refine NA2.mono ?_); rintro e w1 ⟨hb, A, c, rfl⟩; have B1 := Lib.hid hb; clear hb))
    go_ret2
    exact ⟨B1.out, rfl⟩
  have NA2 := NA.mono fun e w' (h : NamR (bl S) w e w') => nam_last rfl hs hp hr h
  have hx : parentB (bl S) = some ((bl S).take (max (slashL (bl S)) 1)) := by unfold parentB; rw [if_neg (fun h => by rcases h with h | h; exact hr h; rw [hp] at h; cases h)]
  rw [hx]
  have h1 : (bl S).take 1 = [47] := by
    have h : (bl S).head? = some 47 := by
      unfold pathB at hp
      rw [show (bl S == [47]) = false by rw [beq_eq_false_iff_ne]; exact hr, Bool.false_or, Bool.and_eq_true] at hp
      exact eq_of_beq hp.1
    cases hl : bl S with
    | nil => rw [hl] at h; cases h
    | cons a l => rw [hl] at h; injection h with h; rw [h]; rfl
  have HP := Lib.hid (show ∀ j : Nat, slashL (bl S) = j → (j = 0 → bl (⟨#[47]⟩ : ByteArray) = (bl S).take (max (slashL (bl S)) 1)) ∧ (j ≠ 0 → bl (S.extract 0 j) = (bl S).take (max (slashL (bl S)) 1)) from fun j hj => by
    rw [hj]
    refine ⟨fun e => ?_, fun e => ?_⟩
    · subst e; rw [show max 0 1 = 1 from rfl, h1]; rfl
    · rw [take_ext, show max j 1 = j by omega])
  have ES := Lib.hid (show ∀ P : ByteArray, P.toList.isEmpty = decide (bl P = []) from emptyS)
  have hs' := Lib.hid hs
  obtain ⟨X, hX⟩ : ∃ X, (bl S).take (max (slashL (bl S)) 1) = X := ⟨_, rfl⟩
  rw [hX] at HP ⊢
  obtain ⟨Y, hY⟩ : ∃ Y, slashL (bl S) = Y := ⟨_, rfl⟩
  rw [hY] at HP NA2
  clear hp hr NA hx h1 hs hX hY
  go_enter Tryz.func10, Tryz.ntmps10
  have NA3 := NA2.mono fun e w' (h : Below w.heap.size w w' ∧ ∃ (g n c : Nat) (q : ByteArray) (pre : List UInt8), e = .returned (.tuple #[.slice (some ⟨g, 0, none⟩) (n + 1) c, .bool true]) ∧ w'.cell? ⟨g, n, none⟩ = some (.string q) ∧ n + 1 ≤ c ∧ n ≤ 4000000000 ∧ pre.length + 1 + q.size = S.size ∧ Y = pre.length) => (show ∃ (g n c : Nat) (q : ByteArray) (j : Nat), e = .returned (.tuple #[.slice (some ⟨g, 0, none⟩) (n + 1) c, .bool true]) ∧ w'.cell? ⟨g, n, none⟩ = some (.string q) ∧ n + 1 ≤ c ∧ (n : Int) ≤ 4000000000 ∧ (S.size : Int) - (q.size : Int) - 1 = (j : Int) ∧ (n : Int) + 1 - 1 = (n : Int) ∧ (j : Int) ≤ (S.size : Int) ∧ Hid ((j = 0 → bl { data := #[47] } = X) ∧ (j ≠ 0 → bl (S.extract 0 j) = X)) ∧ Hid (Below w.heap.size w w') from by
    obtain ⟨hb, g, n, c, q, pre, h1, h2, h3, h4, h5, h6⟩ := h
    exact ⟨g, n, c, q, pre.length, h1, h2, h3, by omega, by omega, by omega, by omega, Lib.hid (HP.out _ h6), Lib.hid hb⟩)
  have hs2 := hs'.out
  clear NA2 HP
  go_wp2_with (go_at_call 40; go_loud ((with_reducible refine (NA3.mono ?_); rintro e w1 ⟨g, n, c, q, j, rfl, hc, hcap, hnn, z1, z2, z3, HJ, B1⟩)))
  · rename_i h
    have hj : j = 0 := by
      rw [ES.out, decide_eq_true_eq, take_ext] at h
      have h9 := congrArg List.length h
      rw [List.length_take, List.length_nil, bl_len] at h9
      omega
    go_ret2
    exact ⟨B1.out, _, HJ.out.1 hj, rfl⟩
  · rename_i h
    have hj : j ≠ 0 := fun e => by
      rw [ES.out, decide_eq_false_iff_not, take_ext, e, List.take_zero] at h
      exact h rfl
    go_ret2
    exact ⟨B1.out, _, HJ.out.2 hj, rfl⟩
end Go.Proofs.YtnablanoaglioaaGreatDoor
