/- Plain laws: numbers read by runs of digits. No program. The decimal text of a number of the reference. Texts of the reference: how many digits, and the number of a text of digits. Texts of the reference's fractions: Text, Put. -/
import Derived.Test.YthjnmnepjeegiaaGreatDoorG3
import Derived.Test.YthjnmnepjeegiaaGreatDoorG15
import Derived.Test.YthjnmnepjeegiaaGreatDoorG5
import Derived.Laws.IdiomStrings
/- Plain laws: numbers read by runs of digits. No program. -/
namespace Go.Proofs.YthjnmnepjeegiaaGreatDoor.Num
open Go.Proofs.YthjnmnepjeegiaaGreatDoor.Str Go.Proofs.YthjnmnepjeegiaaGreatDoor.Dg Go.Proofs.YthjnmnepjeegiaaGreatDoor.Q Go.Lib

/-- How many digits a text has from a place on. -/
def dlen (l : List UInt8) (k : Nat) : Nat := ((l.drop k).takeWhile isD).length
theorem dlen_parts (l : List UInt8) (k : Nat) : ∃ a b, l.drop k = a ++ b ∧ allD a = true ∧ (∀ c, b.head? = some c → isD c = false) ∧ dlen l k = a.length := by
  obtain ⟨a, b, e, h1, h2⟩ := digits_end (l.drop k)
  exact ⟨a, b, e, h1, h2, by unfold dlen; rw [e, (take_digits h1 h2).1]⟩
theorem drop_get {l : List UInt8} {k n : Nat} : (l.drop k)[n]? = l[k + n]? := List.getElem?_drop
theorem dlen_end {l : List UInt8} {k n : Nat} (hk : k + n ≤ l.length) (h : allD ((l.drop k).take n) = true) (he : k + n = l.length ∨ ∃ c, l[k + n]? = some c ∧ isD c = false) : dlen l k = n := by
  have e : l.drop k = (l.drop k).take n ++ (l.drop k).drop n := (List.take_append_drop n _).symm
  have hh : ∀ c, ((l.drop k).drop n).head? = some c → isD c = false := by
    intro c hc
    rw [List.head?_drop, drop_get] at hc
    rcases he with he | ⟨d, hd, hn⟩
    · rw [List.getElem?_eq_none (by omega)] at hc; cases hc
    · rw [hd] at hc; injection hc with hc; rw [← hc]; exact hn
  have t := (take_digits h hh).1
  rw [← e] at t
  unfold dlen
  rw [t, List.length_take, List.length_drop]; omega
theorem dlen_le {l : List UInt8} {k : Nat} : dlen l k ≤ l.length - k := by
  obtain ⟨a, b, e, _, _, h⟩ := dlen_parts l k
  have := congrArg List.length e
  rw [List.length_drop, List.length_append] at this
  omega
theorem dlen_allD (l : List UInt8) (k : Nat) : allD ((l.drop k).take (dlen l k)) = true := by
  obtain ⟨a, b, e, h1, _, h⟩ := dlen_parts l k
  rw [h, e, List.take_left' rfl]; exact h1
theorem dlen_stop {l : List UInt8} {k : Nat} {c : UInt8} (h : l[k + dlen l k]? = some c) : isD c = false := by
  obtain ⟨a, b, e, _, h2, h3⟩ := dlen_parts l k
  rw [← drop_get, e, h3, List.getElem?_append_right (Nat.le_refl _), Nat.sub_self] at h
  exact h2 c (by rw [List.head?_eq_getElem?]; exact h)
theorem dlen_all {m : List UInt8} : dlen m 0 = m.length ↔ allD m = true := by
  constructor
  · intro h
    have := dlen_allD m 0
    rw [h, List.drop_zero, List.take_length] at this
    exact this
  · intro h
    exact dlen_end (by omega) (by rw [List.drop_zero, List.take_length]; exact h) (.inl (by omega))
theorem frm_zero {l : List UInt8} (h : dlen (body l) 0 = 0) : frm l = none := by
  unfold frm
  rw [if_pos]
  have : (((body l).drop 0).takeWhile isD).length = 0 := h
  rw [List.drop_zero] at this
  exact List.eq_nil_of_length_eq_zero this
theorem frm_whole {l : List UInt8} (h : dlen (body l) 0 = (body l).length) (h0 : dlen (body l) 0 ≠ 0) : allD (body l) = true ∧ frm l = some (mkRat (sg (isNeg l) (val (body l))) 1) := by
  have ha := dlen_all.1 h
  have hne : body l ≠ [] := fun e => h0 (by rw [h, e]; rfl)
  refine ⟨ha, ?_⟩
  have hm : ∀ c : UInt8, isD c = false → c ∉ body l := fun c hc hm => by have := allD_mem ha hm; rw [hc] at this; cases this
  rw [frm_int (hm 47 rfl) (hm 46 rfl), if_pos ⟨hne, ha⟩]
theorem frm_mid {l : List UInt8} {c : UInt8} {k : Nat} (hk : dlen (body l) 0 = k) (h0 : k ≠ 0) (hc : (body l)[k]? = some c) :
    body l = (body l).take k ++ c :: (body l).drop (k + 1) ∧ (body l).take k ≠ [] ∧ allD ((body l).take k) = true ∧ isD c = false := by
  have h1 := dlen_allD (body l) 0
  rw [hk, List.drop_zero] at h1
  have h2 := dlen_stop (l := body l) (k := 0) (c := c) (by rw [Nat.zero_add, hk]; exact hc)
  obtain ⟨hlt, he⟩ := List.getElem?_eq_some_iff.1 hc
  refine ⟨?_, ?_, h1, h2⟩
  · rw [← he, ← List.drop_eq_getElem_cons hlt, List.take_append_drop]
  · intro e
    have := congrArg List.length e
    rw [List.length_take, List.length_nil] at this
    omega
/-- What the reader makes of digits, a byte, and what follows. -/
theorem frm_sep {l : List UInt8} {c : UInt8} {k : Nat} (hk : dlen (body l) 0 = k) (h0 : k ≠ 0) (hc : (body l)[k]? = some c) :
    frm l = if (body l).drop (k + 1) ≠ [] ∧ allD ((body l).drop (k + 1)) = true then
      (if c = 46 then some (mkRat (sg (isNeg l) (val ((body l).take k ++ (body l).drop (k + 1)))) (10 ^ ((body l).drop (k + 1)).length))
       else if c = 47 then (if val ((body l).drop (k + 1)) = 0 then none else some (mkRat (sg (isNeg l) (val ((body l).take k))) (val ((body l).drop (k + 1))))) else none) else none := by
  obtain ⟨e, h1, h2, h3⟩ := frm_mid hk h0 hc
  rw [frm_cut e h3]
  by_cases h : (body l).drop (k + 1) ≠ [] ∧ allD ((body l).drop (k + 1)) = true
  · rw [if_pos h, if_pos ⟨h1, h2, h.1, h.2⟩]
  · rw [if_neg h, if_neg (fun g => h ⟨g.2.2.1, g.2.2.2⟩)]
theorem allD_byte {l : List UInt8} (h : allD l = true) {k : Nat} {c : UInt8} (hc : l[k]? = some c) : 48 ≤ c.toNat ∧ c.toNat ≤ 57 := by
  have := allD_mem h (List.mem_of_getElem? hc)
  exact of_decide_eq_true this
/-- Ten to a power, by steps. -/
theorem ten_succ (k : Nat) : 10 ^ k * 10 = 10 ^ (k + 1) := by rw [Nat.pow_succ]
theorem nd_ten (k : Nat) : nd (10 ^ k) ≤ k + 1 := nd_le (by
  unfold pw
  rw [show (1000000000 : Nat) = 10 ^ 9 by decide, ← Nat.pow_mul]
  exact Nat.pow_lt_pow_right (by decide) (by omega))
end Go.Proofs.YthjnmnepjeegiaaGreatDoor.Num

/- The decimal text of a number of the reference. -/
namespace Go.Proofs.YthjnmnepjeegiaaGreatDoor
open Go.RowKit Go.Proofs.YthjnmnepjeegiaaGreatDoor.Dg Go.Proofs.YthjnmnepjeegiaaGreatDoor.Q Go.Proofs.YthjnmnepjeegiaaGreatDoor.Num Go.Proofs.YthjnmnepjeegiaaGreatDoor.Str
open Go.Lib (decDigits)

theorem Tryz.infoU8 : (Tryz.prog.info? 5).map (fun i => (i.zero, i.size, i.bytes)) = some (some (.int .u8 0), 1, 1) := by kernel_rfl
/-- make([]byte, 0, n). -/
theorem Tryz.make8 (n : Nat) (hn : n ≤ 20000000) (w : World) : (Instr.makeSlice 131 (.int .i64 0) (.int .i64 (n : Int))).run Tryz.prog w = .ok (.slice (some ⟨w.heap.size, 0, none⟩) 0 n) (w.alloc (.cells (madeCells #[.int .u8 0] n) 5)) := by
  obtain ⟨i0, hi, hz0, hz1, hz2⟩ := info_parts Tryz.infoU8
  have h := run_make (P := Tryz.prog) w 131 5 i0 (.int .u8 0) Tryz.underlying131 hi hz0 .i64 .i64 0 (n : Int) (Int.le_refl _) (by omega) (by rw [hz2]; omega) (by omega)
  rw [hz1] at h
  simp only [Int.toNat_zero, Int.toNat_natCast, Nat.mul_one] at h
  exact h
theorem app_make8 (w : World) (n : Nat) (hn : n ≤ 20000000) (t : TypeId) (o : Nat → Nat) : AppW .u8 w (w.alloc (.cells (madeCells #[.int .u8 0] n) t)) t (.slice (some ⟨w.heap.size, 0, none⟩) 0 n) 0 o :=
  ⟨(Below.refl _ w).alloc (Nat.le_refl _) _, World.ownsRow_made w _ n (Nat.le_refl _) (by unfold maxLen; omega) (by simp [madeCells])⟩
theorem dec_len_nd (a : Nat) : (decDigits a).length ≤ 9 * nd a + 1 := by
  rcases Nat.eq_zero_or_pos a with h | h
  · subst h; rw [dec_small (by decide)]; exact Nat.succ_le_succ (Nat.zero_le _)
  · have h1 := nd_pos (show a ≠ 0 by omega)
    have h2 := (dec_len_le (u := a) (k := 9 * nd a) (by omega)).2 (by rw [← pw_ten]; exact lt_pw_nd a)
    omega
/-- Where the digits of a limb stop. -/
theorem dec_stop {a i k : Nat} (h0 : dg a i / 10 ^ k = 0) (_hk : k < 9) (hi : i + 1 = nd a) (hn : 9 * i + k ≤ (decDigits a).length) : 9 * i + k = (decDigits a).length := by
  have ha : a ≠ 0 := by rintro rfl; rw [nd_zero] at hi; omega
  have h1 : a / pw i = dg a i := by have := write_top ha; rwa [show nd a - 1 = i by omega] at this
  have h2 : a / 10 ^ (9 * i + k) = 0 := by rw [Nat.pow_add, ← Nat.div_div_eq_div_mul, ← pw_ten, h1, h0]
  have h3 : a < 10 ^ (9 * i + k) := (Nat.div_eq_zero_iff_lt (Nat.pow_pos (by decide))).1 h2
  have hp : 0 < 9 * i + k := by
    rcases Nat.eq_zero_or_pos (9 * i + k) with h | h
    · rw [h] at h3; omega
    · exact h
  have h4 := (dec_len_le (u := a) hp).2 h3
  omega
theorem dec_more {a i k : Nat} (h : i + 1 < nd a ∨ (i + 1 = nd a ∧ dg a i / 10 ^ k ≠ 0)) (hk : k < 9) : 9 * i + k + 1 ≤ (decDigits a).length := by
  have ha : a ≠ 0 := by rintro rfl; rw [nd_zero] at h; omega
  have h3 : 10 ^ (9 * i + k) ≤ a := by
    rcases h with h | ⟨h, h0⟩
    · have h1 := pw_le_nd ha
      have h2 := pw_le (show i + 1 ≤ nd a - 1 by omega)
      have h4 : 10 ^ (9 * i + k) ≤ 10 ^ (9 * (i + 1)) := Nat.pow_le_pow_right (by decide) (by omega)
      rw [← pw_ten] at h4
      exact Nat.le_trans h4 (Nat.le_trans h2 h1)
    · have h1 : a / pw i = dg a i := by have := write_top ha; rwa [show nd a - 1 = i by omega] at this
      rw [← h1, pw_ten, Nat.div_div_eq_div_mul, ← Nat.pow_add] at h0
      rcases Nat.lt_or_ge a (10 ^ (9 * i + k)) with h2 | h2
      · exact absurd (Nat.div_eq_of_lt h2) h0
      · exact h2
  rcases Nat.lt_or_ge (9 * i + k) (decDigits a).length with h4 | h4
  · exact h4
  · have h5 := dec_lt (a := a)
    have h6 : 10 ^ (decDigits a).length ≤ 10 ^ (9 * i + k) := Nat.pow_le_pow_right (by decide) h4
    omega
theorem div_ten (x k : Nat) : x / 10 ^ (k + 1) = x / 10 ^ k / 10 := by rw [Nat.pow_succ, Nat.div_div_eq_div_mul]
theorem dig_eq {a i k : Nat} (h : k < 9) : dd a (9 * i + k) = 48 + dg a i / 10 ^ k % 10 := by unfold dd; rw [limb_digit h]
theorem Tryz.conv_fs {w : World} {B : Nat} {A : Option Addr} {c : Nat} {o : Nat → Nat} {l : List UInt8} (h : Fs .u8 w B A l.length c o) (hl : 0 < l.length) (ho : ∀ j (hj : j < l.length), o j = l[j].toNat) :
    (convert 131 9 (.slice A l.length c)).run Tryz.prog w = .ok (.string ⟨l.toArray⟩) w := by
  obtain ⟨b, off, rfl, _, hc⟩ := h.2.2 hl
  refine run_convert_bytes_back w 131 9 5 ⟨b, off, none⟩ c l Tryz.underlying131 Tryz.underlying5 Tryz.underlying9 ?_
  intro j hj
  have h1 := hc j hj
  rw [ho j hj] at h1
  rw [← h1]
  unfold Addr.add
  split <;> simp_all
theorem dec_get {a j : Nat} (hj : j < (decDigits a).length) : dd a ((decDigits a).length - 1 - j) = (decDigits a)[j].toNat := by
  have h := dec_at hj
  rw [List.getElem?_eq_getElem hj] at h
  injection h with h
  rw [h]
  have := dd_lt a ((decDigits a).length - 1 - j)
  simp [Nat.mod_eq_of_lt this]

set_option maxRecDepth 100000 in
set_option maxHeartbeats 6400000 in
theorem rtext_any (A : Option Addr) (c a : Nat) (w : World) (h : Nt .u64 w w.heap.size A c a) (hn : nd a ≤ 800000) :
    Calls Tryz.prog 70 #[.slice A (nd a) c] w fun e w' => e = .returned (.string ⟨(decDigits a).toArray⟩) ∧ Below w.heap.size w w' := by
  by_cases h0 : a = 0
  · subst h0
    rw [show decDigits 0 = [48] from dec_small (by decide), nd_zero]
    clear h hn
    go_enter Tryz.func70, Tryz.ntmps70
    go_wp2
    go_ret
    exact ⟨rfl, Below.refl _ _⟩
  · obtain ⟨i0, hi, hz0, hz1, hz2⟩ := info_parts Tryz.infoU8
    have hpos : 0 < nd a := by have := nd_pos h0; omega
    have e0 := nd_ne h0
    obtain ⟨b1, o1, rfl, hlt, hcell⟩ := h.2.2 hpos
    have HC := Lib.hid hcell
    obtain ⟨L, hL⟩ : ∃ L, (decDigits a).length = L := ⟨_, rfl⟩
    have hLn := dec_len_nd a
    rw [hL] at hLn
    have hL0 : 0 < L := by rw [← hL]; exact decDigits_pos a
    have HL := Lib.hid hL
    have hL9 : L ≤ 9 * nd a := by rw [← hL]; exact (dec_len_le (by omega)).2 (by rw [← pw_ten]; exact lt_pw_nd a)
    have hmk := fun w => Tryz.make8 (9 * nd a) (by omega) w
    push_cast at hmk
    have R0 := Lib.hid (app_make8 w (9 * nd a) (by omega) 5 (dd a))
    have nb : ((nd a : Nat) : Int) ≤ 800000 := by omega
    have wr9 : IntKind.i64.wrap (9 * ((nd a : Nat) : Int)) = 9 * ((nd a : Nat) : Int) := IntWalk.i64_in _ (by constructor <;> omega)
    have wr9' : wrap64 (9 * ((nd a : Nat) : Int)) = 9 * ((nd a : Nat) : Int) := IntWalk.wrap64_in _ (by constructor <;> omega)
    clear hcell hL h h0
    obtain ⟨l, hl⟩ : ∃ l, nd a = l := ⟨_, rfl⟩
    have HN := Lib.hid hl
    rw [hl] at e0 hpos HC hLn hL9 hmk R0 nb wr9 wr9' ⊢
    clear hl
    go_enter Tryz.func70, Tryz.ntmps70
    go_wp2
    go_loopw [18, 3] (fun i v wr => ∃ k n : Nat, k ≤ l ∧ i = .int .i64 (k : Int) ∧ n ≤ L ∧ (k < l → n = 9 * k) ∧ (k = l → n = L) ∧ Hid (AppW .u8 w wr 5 v n (dd a))) (fun i _ _ => (l - intOf i).toNat)
    case atStart => exact ⟨0, 0, Nat.zero_le _, rfl, Nat.zero_le _, fun _ => rfl, fun h => by omega, R0⟩
    case round =>
      clear R0
      obtain ⟨k, n, hk, rfl, hnL, hn1, hn2, hR⟩ := hrel
      by_cases hkl : k = l
      · obtain rfl := hn2 hkl
        subst hkl
        obtain ⟨A8, c8, rfl, F8⟩ := own_fs hR.out.2
        obtain ⟨b8, o8, rfl, hlt8, hc8⟩ := F8.2.2 hL0
        have HC8 := Lib.hid hc8
        have B8 := Lib.hid hR.out.1
        have hmk2 := fun w => Tryz.make8 n (by omega) w
        have R1 := Lib.hid (app_make8 wr n (by omega) 5 (fun j => dd a (n - 1 - j)))
        have nL : (n : Int) ≤ 7200001 := by omega
        clear hn1 hn2 hR F8 hc8 HC hmk
        go_wp2
        generalize wr = wo at *
        go_loopw [8, 7] (fun i v w2 => ∃ j : Nat, j ≤ n ∧ ((∃ p : Nat, j + p + 1 = n ∧ i = .int .i64 (p : Int)) ∨ (j = n ∧ i = .int .i64 (-1))) ∧ Hid (AppW .u8 wo w2 5 v j (fun t => dd a (n - 1 - t)))) (fun i _ _ => (intOf i + 1).toNat)
        case atStart => exact ⟨0, Nat.zero_le _, .inl ⟨n - 1, by omega, by rw [show ((n - 1 : Nat) : Int) = (n : Int) - 1 by omega]⟩, R1⟩
        case round =>
          clear R1 hmk2
          obtain ⟨j, hj, hi8, hR⟩ := hrel
          rcases hi8 with ⟨p, hp, rfl⟩ | ⟨rfl, rfl⟩
          · have hcp := (hR.out.1.cell hlt8).trans (HC8.out p (by omega))
            obtain ⟨d, hd⟩ : ∃ d, dd a p = d := ⟨_, rfl⟩
            have hdl := dd_lt a p
            rw [hd] at hcp hdl
            have HD := Lib.hid hd
            have hpl : (p : Int) < (n : Int) := by omega
            have hp0 : (0 : Int) ≤ (p : Int) := by omega
            have hB := Lib.hid hR.out.1
            have hO := Lib.hid hR.out.2
            clear hR hd
            go_wp2_with (at_builtin; refine wpList_append_own_at _ rfl (.tmp 58) (.tmp 63) _ rfl wo.heap.size 5 i0 (.int .u8 0) 1 1 Tryz.underlying131 hi hz0 hz1 hz2 rfl (by decide) _ _ _ rfl (hO.out.alloc _) ⟨wr.heap.size, 0, none⟩ 1 1 [.int .u8 ((d : Int))] rfl rfl (cell_one_new _ _ _) (ints_oneCell .u8 [(d : Int)]) (by unfold maxLen; omega) (by omega) (below_alloc hB.out _).size ?_; intro v2 w2 a2 g2 m2 l2; have B2 := Lib.hid (grown_below (hO.out.alloc _) (below_alloc hB.out _) g2); have A2 := Lib.hid a2; clear a2 g2 m2 l2)
            go_roundw
            case rel =>
              refine ⟨j + 1, by omega, ?_, B2.out, ?_⟩
              · rcases Nat.eq_zero_or_pos p with h | h
                · subst h
                  exact .inr ⟨by omega, rfl⟩
                · exact .inl ⟨p - 1, by omega, by rw [show ((p - 1 : Nat) : Int) = (p : Int) - 1 by omega]⟩
              · have R := A2.out
                rw [limbs_succ, show n - 1 - j = p by omega, HD.out]
                exact R
            case measure => simp only [intOf]; omega
          · obtain ⟨A9, c9, rfl, F9⟩ := own_fs hR.out.2
            have e := HL.out
            have F9' : Fs .u8 wr wr.heap.size A9 (decDigits a).length c9 (fun t => dd a ((decDigits a).length - 1 - t)) := by rw [e]; exact F9
            have hcv := Tryz.conv_fs F9' (by rw [e]; exact hL0) (fun j hj => dec_get hj)
            rw [e] at hcv
            have B9 := Lib.hid (btrans B8.out hR.out.1)
            clear hR F9 F9' e
            go_wp2
            go_ret
            exact ⟨rfl, B9.out⟩
      · have hkl' : k < l := by omega
        obtain rfl := hn1 hkl'
        have hi1 : (k : Int) < (l : Int) := by omega
        have hcl := (hR.out.1.cell hlt).trans (HC.out k hkl')
        obtain ⟨d0, hd0⟩ : ∃ d, dg a k = d := ⟨_, rfl⟩
        have HD0 := Lib.hid hd0
        rw [hd0] at hcl
        have hdl : d0 < 1000000000 := by rw [← hd0]; exact dg_lt a k
        have z0 : d0 / 10 ^ 0 = d0 := by rw [Nat.pow_zero, Nat.div_one]
        clear hn1 hn2 hd0
        go_wp2
        generalize wr = wo at *
        go_loopw [6, 5, 3] (fun kk d v wr' => ∃ j : Nat, j ≤ 9 ∧ kk = .int .i64 (j : Int) ∧ d = .int .u64 ((d0 / 10 ^ j : Nat) : Int) ∧ 9 * k + j ≤ L ∧ Hid (AppW .u8 w wr' 5 v (9 * k + j) (dd a))) (fun kk _ _ _ => (9 - intOf kk).toNat)
        case atStart => exact ⟨0, Nat.zero_le _, rfl, by rw [z0], hnL, hR⟩
        case round =>
          clear hR hcl z0
          obtain ⟨j, hj, rfl, rfl, hjL, hR⟩ := hrel
          by_cases hj9 : j = 9
          · subst hj9
            clear HD0
            generalize d0 / 10 ^ 9 = x at *
            go_wp2
            go_roundw
            case rel => exact ⟨k + 1, 9 * k + 9, by omega, by go_num, hjL, fun _ => by omega, fun _ => by omega, hR⟩
            case measure => simp only [intOf]; omega
          · have hj9' : (j : Int) < 9 := by omega
            obtain ⟨x, hx⟩ : ∃ x, d0 / 10 ^ j = x := ⟨_, rfl⟩
            have hxl : x ≤ d0 := by rw [← hx]; exact Nat.div_le_self _ _
            have HX := Lib.hid hx
            rw [hx]
            clear hx
            by_cases hlast : k + 1 = l
            · have hk1 : ¬ (k : Int) + 1 < (l : Int) := by omega
              by_cases hx0 : x = 0
              · subst hx0
                have hend := dec_stop (a := a) (i := k) (k := j) (by rw [HD0.out]; exact HX.out) (by omega) (by rw [HN.out]; exact hlast) (by rw [HL.out]; exact hjL)
                rw [HL.out] at hend
                go_wp2
                go_roundw
                case rel => exact ⟨k + 1, 9 * k + j, by omega, by go_num, hjL, fun h => by omega, fun _ => hend, hR⟩
                case measure => simp only [intOf]; omega
              · have hx1 : (0 : Int) < (x : Int) := by omega
                have hm := dec_more (a := a) (i := k) (k := j) (by rw [HN.out, HD0.out, HX.out]; exact .inr ⟨hlast, hx0⟩) (by omega)
                rw [HL.out] at hm
                obtain ⟨r, hr⟩ : ∃ r : Nat, x % 10 = r := ⟨_, rfl⟩
                have e1 : (x : Int) % 10 = (r : Int) := by omega
                have b2 : (r : Int) ≤ 9 := by omega
                have hdd := Lib.hid (show ((dd a (9 * k + j) : Nat) : Int) = 48 + (r : Int) by rw [dig_eq (by omega), HD0.out, HX.out, hr]; push_cast; rfl)
                have HXX := Lib.hid (show d0 / 10 ^ (j + 1) = x / 10 by rw [div_ten, HX.out])
                have b3 : IntKind.u64.wrap ((x : Int) / 10) = (x : Int) / 10 := IntWalk.u64_in _ (by constructor <;> omega)
                have hB := Lib.hid hR.out.1
                have hO := Lib.hid hR.out.2
                clear hR hr
                go_wp2_with (at_builtin; refine wpList_append_own_at _ rfl (.tmp 38) (.tmp 43) _ rfl w.heap.size 5 i0 (.int .u8 0) 1 1 Tryz.underlying131 hi hz0 hz1 hz2 rfl (by decide) _ _ _ rfl (hO.out.alloc _) ⟨wr.heap.size, 0, none⟩ 1 1 [.int .u8 (48 + (r : Int))] rfl rfl (cell_one_new _ _ _) (ints_oneCell .u8 [48 + (r : Int)]) (by unfold maxLen; omega) (by omega) (below_alloc hB.out _).size ?_; intro v2 w2 a2 g2 m2 l2; have B2 := Lib.hid (grown_below (hO.out.alloc _) (below_alloc hB.out _) g2); have A2 := Lib.hid a2; clear a2 g2 m2 l2)
                go_roundw
                case rel =>
                  refine ⟨j + 1, by omega, by go_num, by rw [HXX.out]; rfl, by omega, B2.out, ?_⟩
                  have R := A2.out
                  rw [← Nat.add_assoc, limbs_succ, hdd.out]
                  exact R
                case measure => simp only [intOf]; omega
            · have hk1 : (k : Int) + 1 < (l : Int) := by omega
              have hm := dec_more (a := a) (i := k) (k := j) (by rw [HN.out]; exact .inl (by omega)) (by omega)
              rw [HL.out] at hm
              obtain ⟨r, hr⟩ : ∃ r : Nat, x % 10 = r := ⟨_, rfl⟩
              have e1 : (x : Int) % 10 = (r : Int) := by omega
              have b2 : (r : Int) ≤ 9 := by omega
              have hdd := Lib.hid (show ((dd a (9 * k + j) : Nat) : Int) = 48 + (r : Int) by rw [dig_eq (by omega), HD0.out, HX.out, hr]; push_cast; rfl)
              have HXX := Lib.hid (show d0 / 10 ^ (j + 1) = x / 10 by rw [div_ten, HX.out])
              have b3 : IntKind.u64.wrap ((x : Int) / 10) = (x : Int) / 10 := IntWalk.u64_in _ (by constructor <;> omega)
              have hB := Lib.hid hR.out.1
              have hO := Lib.hid hR.out.2
              clear hR hr
              go_wp2_with (at_builtin; refine wpList_append_own_at _ rfl (.tmp 38) (.tmp 43) _ rfl w.heap.size 5 i0 (.int .u8 0) 1 1 Tryz.underlying131 hi hz0 hz1 hz2 rfl (by decide) _ _ _ rfl (hO.out.alloc _) ⟨wr.heap.size, 0, none⟩ 1 1 [.int .u8 (48 + (r : Int))] rfl rfl (cell_one_new _ _ _) (ints_oneCell .u8 [48 + (r : Int)]) (by unfold maxLen; omega) (by omega) (below_alloc hB.out _).size ?_; intro v2 w2 a2 g2 m2 l2; have B2 := Lib.hid (grown_below (hO.out.alloc _) (below_alloc hB.out _) g2); have A2 := Lib.hid a2; clear a2 g2 m2 l2)
              go_roundw
              case rel =>
                refine ⟨j + 1, by omega, by go_num, by rw [HXX.out]; rfl, by omega, B2.out, ?_⟩
                have R := A2.out
                rw [← Nat.add_assoc, limbs_succ, hdd.out]
                exact R
              case measure => simp only [intOf]; omega
end Go.Proofs.YthjnmnepjeegiaaGreatDoor

/- Texts of the reference: how many digits, and the number of a text of digits. -/
namespace Go.Proofs.YthjnmnepjeegiaaGreatDoor
open Go.RowKit Go.Proofs.YthjnmnepjeegiaaGreatDoor.Dg Go.Proofs.YthjnmnepjeegiaaGreatDoor.Q Go.Proofs.YthjnmnepjeegiaaGreatDoor.Num Go.Proofs.YthjnmnepjeegiaaGreatDoor.Str

set_option maxRecDepth 100000 in
set_option maxHeartbeats 1600000 in
theorem rrun_any (S : ByteArray) (k : Nat) (hk : k ≤ S.size) (hs : S.size ≤ 1000000) (w : World) :
    Calls Tryz.prog 68 #[.string S, .int .i64 (k : Int)] w fun e w' => e = .returned (.int .i64 ((dlen (bl S) k : Nat) : Int)) ∧ w' = w := by
  go_enter Tryz.func68, Tryz.ntmps68
  go_wp2
  go_loop [5] (fun i => ∃ n : Nat, k + n ≤ S.size ∧ Hid (allD (((bl S).drop k).take n) = true) ∧ i = .int .i64 (n : Int)) (fun i => (S.size - intOf i).toNat)
  case atStart => exact ⟨0, by omega, Lib.hid (by rw [List.take_zero]; rfl), rfl⟩
  case round =>
    obtain ⟨n, hn, hA, rfl⟩ := hrel
    obtain ⟨m, hm⟩ : ∃ m, k + n = m := ⟨_, rfl⟩
    have e1 : (k : Int) + (n : Int) = (m : Int) := by omega
    have w1 : IntKind.i64.wrap ((k : Int) + (n : Int)) = (m : Int) := by rw [e1]; exact IntWalk.i64_in _ (by constructor <;> omega)
    by_cases hend : m = S.size
    · have HD := Lib.hid (dlen_end (l := bl S) (k := k) (n := n) (by rw [bl_len]; omega) hA.out (.inl (by rw [bl_len]; omega)))
      have i1 : ¬ (m : Int) < (S.size : Int) := by omega
      clear hA hend hm
      go_wp2
      go_ret
      exact ⟨by rw [HD.out]; rfl, rfl⟩
    · have hlt : m < S.size := by omega
      have i1 : (m : Int) < (S.size : Int) := by omega
      have i0 : (0 : Int) ≤ (m : Int) := by omega
      have hc : (bl S)[k + n]? = some S[m] := by rw [hm]; exact bl_at S m hlt
      by_cases hd : isD S[m] = true
      · obtain ⟨d1, d2⟩ := (isD_byte _).1 hd
        have HA := Lib.hid (show allD (((bl S).drop k).take (n + 1)) = true by
          rw [List.take_add_one, drop_get, hc, allD_append, hA.out]
          simp [allD, hd])
        have hn1 : k + (n + 1) ≤ S.size := by omega
        have d3 : (48 : Int) ≤ ((S[m].toNat : Nat) : Int) := by omega
        have d4 : ((S[m].toNat : Nat) : Int) ≤ 57 := by omega
        clear hd hA hend hc d1 d2 hm
        go_wp2
        go_round
        case rel => exact ⟨n + 1, hn1, HA, by go_num⟩
        case measure => simp only [intOf]; omega
      · have HD := Lib.hid (dlen_end (l := bl S) (k := k) (n := n) (by rw [bl_len]; omega) hA.out (.inr ⟨_, hc, by simpa using hd⟩))
        have hd' : ((S[m].toNat : Nat) : Int) < 48 ∨ (57 : Int) < ((S[m].toNat : Nat) : Int) := by
          have := isD_byte S[m]
          by_cases h1 : ((S[m].toNat : Nat) : Int) < 48
          · exact .inl h1
          · by_cases h2 : (57 : Int) < ((S[m].toNat : Nat) : Int)
            · exact .inr h2
            · exact absurd (this.2 ⟨h1, h2⟩) hd
        clear hd hA hend hc hm
        rcases hd' with h1 | h1
        · have h2 : ¬ (48 : Int) ≤ ((S[m].toNat : Nat) : Int) := by omega
          go_wp2
          go_ret
          exact ⟨by rw [HD.out]; rfl, rfl⟩
        · have h2 : (48 : Int) ≤ ((S[m].toNat : Nat) : Int) := by omega
          have h3 : ¬ ((S[m].toNat : Nat) : Int) ≤ 57 := by omega
          go_wp2
          go_ret
          exact ⟨by rw [HD.out]; rfl, rfl⟩

theorem val_chunk {l : List UInt8} {q i : Nat} {c : UInt8} (h : (l.drop q)[i]? = some c) : val ((l.drop q).take (i + 1)) = 10 * val ((l.drop q).take i) + (c.toNat - 48) := by
  rw [List.take_add_one, h]; exact val_snoc _ _
theorem allD_of_get {l : List UInt8} (h : allD l = true) {S : ByteArray} (e : bl S = l) (i : Nat) (hi : i < S.size) : 48 ≤ S[i].toNat ∧ S[i].toNat ≤ 57 := by
  subst e; exact allD_byte h (bl_at S i hi)
/-- Nine digits before the end. -/
theorem chunk_nine {l : List UInt8} (hd : allD l = true) {k m : Nat} (hm : m ≤ l.length) (hv : val (l.take m) = val l / pw k) (q : Nat) (hq : q = m - 9) :
    val ((l.drop q).take (m - q)) = dg (val l) k ∧ val (l.take q) = val l / pw (k + 1) := by
  have e : l.take m = l.take q ++ (l.drop q).take (m - q) := by
    rw [← List.take_append_drop q (l.take m), List.take_take, List.drop_take, Nat.min_eq_left (by omega)]
  refine read_step hv e ?_ (allD_take (allD_drop hd q) _)
  rw [List.length_take, List.length_drop]
  by_cases h9 : 9 ≤ m
  · exact .inl (by omega)
  · refine .inr ⟨?_, by omega⟩
    rw [show q = 0 by omega, List.take_zero]

set_option maxRecDepth 100000 in
set_option maxHeartbeats 3200000 in
theorem rread_any (S : ByteArray) (hs : S.size ≤ 1000000) (hd : allD (bl S) = true) (w : World) :
    Calls Tryz.prog 97 #[.string S] w (GiveN .u64 w (val (bl S))) := by
  obtain ⟨i0, hi, hz0, hz1, hz2⟩ := info_parts Tryz.infoU64
  have R0 : Hid (AppW .u64 w w 75 (.slice none 0 0) 0 (dg (val (bl S)))) := ⟨Below.refl _ _, World.ownsRow_nil w w.heap.size 75 1⟩
  have HD := Lib.hid hd
  clear hd
  go_enter Tryz.func97, Tryz.ntmps97
  go_wp2
  go_loopw [3, 4] (fun v i wr => ∃ k m : Nat, m ≤ S.size ∧ k + m ≤ S.size ∧ Hid (val ((bl S).take m) = val (bl S) / pw k) ∧ (∃ z : Int, i = .int .i64 z ∧ (z = (m : Int) ∨ (m = 0 ∧ z ≤ 0 ∧ -9 ≤ z))) ∧ Hid (AppW .u64 w wr 75 v k (dg (val (bl S))))) (fun _ i _ => (intOf i).toNat)
  case atStart => exact ⟨0, S.size, Nat.le_refl _, by omega, Lib.hid (by rw [pw_zero, Nat.div_one, List.take_of_length_le (by rw [bl_len]; exact Nat.le_refl _)]), ⟨_, rfl, .inl rfl⟩, R0⟩
  case round =>
    clear R0
    obtain ⟨k, m, hm, hkm, hv, ⟨z, rfl, hi4⟩, hR⟩ := hrel
    by_cases hm0 : m = 0
    · have hz : z ≤ 0 := by omega
      obtain ⟨A', c', rfl, hF⟩ := own_fs hR.out.2
      have hkk := read_end (s := bl S) (i := k) (by have := hv.out; rwa [hm0, List.take_zero] at this)
      have T := rtrim_any A' k c' (dg (val (bl S))) wr hF (fun j _ => dg_lt _ j) (by omega)
      rw [hkk] at T
      have HF := Lib.hid (show Nt .u64 wr wr.heap.size A' c' (val (bl S)) by
        have h1 := nd_sum (n := k) (o := dg (val (bl S))) (fun j _ => dg_lt _ j)
        have := hF.trimmed (fun j _ => dg_lt _ j) h1
        rwa [hkk] at this)
      have HB := Lib.hid hR.out.1
      have i1 : ¬ (0 : Int) < z := by omega
      clear hF hkk hR hi4 hv hm0 hz
      go_wp2_with (go_at_call 102; (with_reducible refine T.mono ?_); rintro e w1 ⟨rfl, rfl⟩)
      go_ret
      exact ⟨A', c', rfl, HF.out, HB.out⟩
    · obtain rfl : z = (m : Int) := by omega
      obtain ⟨q, hq⟩ : ∃ q, q = m - 9 := ⟨_, rfl⟩
      obtain ⟨h1, h2⟩ := chunk_nine HD.out (by rw [bl_len]; exact hm) hv.out q hq
      have HX := Lib.hid h1
      have HV := Lib.hid h2
      have em : max ((m : Int) - 9) 0 = (q : Int) := by omega
      have i1 : (0 : Int) < (m : Int) := by omega
      have hqm : q ≤ m := by omega
      have hm9 : m ≤ q + 9 := by omega
      have hB := Lib.hid hR.out.1
      have hO := Lib.hid hR.out.2
      have z0 : val (((bl S).drop q).take 0) = 0 := by rw [List.take_zero]; rfl
      clear h1 h2 hR hv hi4
      go_wp2
      generalize wr = wo at *
      go_loop [5, 6] (fun dv i => ∃ p d : Nat, q ≤ p ∧ p ≤ m ∧ d < 1000000000 ∧ Hid (val (((bl S).drop q).take (p - q)) = d) ∧ i = .int .i64 (p : Int) ∧ dv = .int .u64 (d : Int)) (fun _ i => (m - intOf i).toNat)
      case atStart => exact ⟨q, 0, Nat.le_refl _, hqm, by decide, Lib.hid (by rw [Nat.sub_self]; exact z0), by first | rfl | (rw [hq]), rfl⟩
      case round =>
        clear z0
        obtain ⟨p, d, hqp, hpm, hd9, hv, rfl, rfl⟩ := hrel
        by_cases hp : p = m
        · subst hp
          have hdd := Lib.hid (show dg (val (bl S)) k = d by rw [← HX.out]; exact hv.out)
          clear hv HX
          go_wp2_with (at_builtin; refine wpList_append_own_at _ rfl (.tmp 29) (.tmp 31) _ rfl w.heap.size 75 i0 (.int .u64 0) 1 8 Tryz.underlying52 hi hz0 hz1 hz2 rfl (by decide) _ _ _ rfl (hO.out.alloc _) ⟨wo.heap.size, 0, none⟩ 1 1 [.int .u64 (d : Int)] rfl rfl (cell_one_new _ _ _) (ints_oneCell .u64 [(d : Int)]) (by unfold maxLen; omega) (by omega) (below_alloc hB.out _).size ?_; intro v2 w2 a2 g2 m2 l2; have B2 := Lib.hid (grown_below (hO.out.alloc _) (below_alloc hB.out _) g2); have A2 := Lib.hid a2; clear a2 g2 m2 l2)
          go_roundw
          case rel =>
            refine ⟨k + 1, q, by omega, by omega, HV, ?_, Lib.hid ⟨B2.out, ?_⟩⟩
            · by_cases h9 : 9 ≤ p
              · exact ⟨_, rfl, .inl (by omega)⟩
              · exact ⟨_, rfl, .inr ⟨by omega, by omega, by omega⟩⟩
            · have R := A2.out
              rw [limbs_succ, hdd.out]
              exact R
          case measure => simp only [intOf]; omega
        · have hlt : p < S.size := by omega
          have i2 : (p : Int) < (m : Int) := by omega
          obtain ⟨c1, c2⟩ := allD_of_get HD.out rfl p hlt
          obtain ⟨x, hx⟩ : ∃ x, S[p].toNat = 48 + x := ⟨S[p].toNat - 48, by omega⟩
          have hc : ((bl S).drop q)[p - q]? = some S[p] := by rw [drop_get, show q + (p - q) = p by omega]; exact bl_at S p hlt
          have hq9 : p - q + 1 ≤ 9 := by omega
          have HN := Lib.hid (show val (((bl S).drop q).take (p + 1 - q)) = 10 * d + x by
            rw [show p + 1 - q = (p - q) + 1 by omega, val_chunk hc, hv.out, hx]; omega)
          have hb9 : 10 * d + x < 1000000000 := by
            rw [← HN.out]
            refine Nat.lt_of_lt_of_le (val_lt _ (allD_take (allD_drop HD.out q) _)) ?_
            have : (((bl S).drop q).take (p + 1 - q)).length ≤ 9 := by rw [List.length_take]; omega
            exact Nat.le_trans (Nat.pow_le_pow_right (by decide) this) (by decide)
          have e2 : ((S[p].toNat : Nat) : Int) = 48 + (x : Int) := by omega
          have x9 : (x : Int) ≤ 9 := by omega
          clear hc hx hv hp c1 c2
          go_wp2
          go_round
          case rel => exact ⟨p + 1, 10 * d + x, by omega, by omega, hb9, HN, by go_num, by first | go_num | (simp; done) | (push_cast; congr 1; omega)⟩
          case measure => simp only [intOf]; omega

end Go.Proofs.YthjnmnepjeegiaaGreatDoor

/- Texts of the reference's fractions: Text, Put. -/
namespace Go.Proofs.YthjnmnepjeegiaaGreatDoor
open Go.RowKit Go.Proofs.YthjnmnepjeegiaaGreatDoor.Dg Go.Proofs.YthjnmnepjeegiaaGreatDoor.Q Go.Proofs.YthjnmnepjeegiaaGreatDoor.Num Go.Proofs.YthjnmnepjeegiaaGreatDoor.Str

theorem K1.three {w w' : World} {a b c : Value} {t : TypeId} (h : K1 w w' a b c t) : w'.cell? ⟨w.heap.size, 0, none⟩ = some a ∧ w'.cell? ⟨w.heap.size, 1, none⟩ = some b ∧ w'.cell? ⟨w.heap.size, 2, none⟩ = some c := h.1.cells
theorem K1.b {w w' : World} {a b c : Value} {t : TypeId} (h : K1 w w' a b c t) : Below w.heap.size w w' := h.2.1
theorem dec_one {n : Nat} : Lib.decDigits n = [49] ↔ n = 1 := by
  constructor
  · intro h
    have := val_dec n
    rw [h] at this
    exact this.symm
  · rintro rfl
    exact dec_small (by decide)

set_option maxRecDepth 100000 in
set_option maxHeartbeats 6400000 in
theorem rtextq_any (v1 : Value) (a : Rat) (w : World) (h1 : Qr w v1 a) (hs : sz a ≤ 700000) :
    Calls Tryz.prog 36 #[v1] w fun e w' => e = .returned (.tuple #[.string ⟨(put a).toArray⟩, .bool (short a)]) ∧ Below w.heap.size w w' := by
  have DE := fun w' (hb : Below w.heap.size w w') => rden_any v1 a w' (h1.up hb)
  obtain ⟨A1, c1, A2, c2, d, rfl, n1, n2, hd⟩ := h1
  have s1 := sz_top a
  have s2 := sz_den a
  have T1 := fun w' (hb : Below w.heap.size w w') => rtext_any A1 c1 (top a) w' (n1.up hb) (by omega)
  have T2 := fun w' A c h => rtext_any A c a.den w' h (by omega)
  have k0 := Lib.hid (show K1 w (w.alloc (.cells #[.bool (ngt a), .slice A1 (nd (top a)) c1, .slice A2 (nd d) c2] 54)) _ _ _ _ from box_rs w _ _ _ _)
  have kd := Lib.hid (k0.out.up (Below.drew (Below.refl _ _)))
  obtain ⟨p0, p1, p2⟩ := k0.out.three
  obtain ⟨D1, hD1⟩ : ∃ D1 : ByteArray, D1 = ⟨(Lib.decDigits (top a)).toArray⟩ := ⟨_, rfl⟩
  obtain ⟨D2, hD2⟩ : ∃ D2 : ByteArray, D2 = ⟨(Lib.decDigits a.den).toArray⟩ := ⟨_, rfl⟩
  rw [← hD1] at T1
  rw [← hD2] at T2
  have b1 : bl D1 = Lib.decDigits (top a) := by rw [hD1]; rfl
  have b2 : bl D2 = Lib.decDigits a.den := by rw [hD2]; rfl
  have z1 : D1.size = (Lib.decDigits (top a)).length := by rw [← bl_len, b1]
  have z2 : D2.size = (Lib.decDigits a.den).length := by rw [← bl_len, b2]
  have zb1 : D1.size ≤ 7000000 := by rw [z1]; have := dec_bound (top a); omega
  have zb2 : D2.size ≤ 7000000 := by rw [z2]; have := dec_bound a.den; omega
  have hsh : short a = (decide (D1.size ≤ 40) && decide (D2.size ≤ 40)) := by rw [z1, z2]; rfl
  have hT : txt a = (if ngt a = true then [45] else []) ++ (bl D1 ++ (if a.den = 1 then [] else 47 :: bl D2)) := by rw [b1, b2]; rfl
  have hone : (D2.toList == [49]) = decide (a.den = 1) := by rw [eqS, b2, Bool.eq_iff_iff, decide_eq_true_iff, decide_eq_true_iff]; exact dec_one
  have hput : put a = if short a = true then txt a else [] := rfl
  clear n1 n2 s1 s2 hs hD1 hD2 b1 b2 z1 z2 hd
  generalize hx : ngt a = x at *
  generalize hl1 : nd (top a) = l1 at *
  generalize hl2 : nd d = l2 at *
  generalize hdn : a.den = dn at *
  clear hx hl1 hl2 hdn
  generalize put a = P at *
  generalize txt a = T at *
  generalize short a = sh at *
  by_cases c1' : D1.size ≤ 40
  · by_cases c2' : D2.size ≤ 40
    · rw [decide_eq_true c1', decide_eq_true c2'] at hsh
      have HS := Lib.hid (show sh = true from hsh)
      have HP := Lib.hid (show P = T by rw [hput, hsh]; rfl)
      have i1 : ¬ (40 : Int) < (D1.size : Int) := by omega
      have i2 : ¬ (40 : Int) < (D2.size : Int) := by omega
      clear hsh hput c1' c2'
      by_cases h1 : dn = 1
      · rw [decide_eq_true h1] at hone
        rw [if_pos h1] at hT
        clear h1
        cases x
        · have HT := Lib.hid hT
          clear hT
          go_enter Tryz.func36, Tryz.ntmps36
          go_wp2_with fail
          go_region_held3 (fun w' => w'.cell? ⟨w.heap.size, 0, none⟩ = some (.bool false) ∧ w'.cell? ⟨w.heap.size, 1, none⟩ = some (.slice A1 l1 c1) ∧ w'.cell? ⟨w.heap.size, 2, none⟩ = some (.slice A2 l2 c2))
            (first | (with_reducible exact k3.out.three) | (with_reducible exact k2.out.three) | (with_reducible exact k1.out.three) | (with_reducible exact kd.out.three) | go_keep)
            (first
              | (go_at_call 70; go_loud ((with_reducible refine (T2 _ _ _ N2.out).mono ?_); rintro e w3 ⟨rfl, hb⟩; have k3 := Lib.hid (k2.out.up hb); obtain ⟨t0, t1, t2⟩ := k3.out.three; clear hb))
              | (go_at_call 71; go_loud ((with_reducible refine (DE _ k1.out.b).mono ?_); rintro e w2 ⟨A3, c3, rfl, hN, hb⟩; have k2 := Lib.hid (k1.out.up hb); have N2 := Lib.hid hN; obtain ⟨t0, t1, t2⟩ := k2.out.three; clear hN hb))
              | (go_at_call 70; go_loud ((with_reducible refine (T1 _ kd.out.b).mono ?_); rintro e w1 ⟨rfl, hb⟩; have k1 := Lib.hid (kd.out.up hb); obtain ⟨t0, t1, t2⟩ := k1.out.three; clear hb)))
          go_wp2
          go_ret2
          refine ⟨cal_str2 (bl_inj ?_) HS.out.symm, k3.out.b⟩
          show bl _ = P
          rw [HP.out, HT.out]
          try simp only [bl_app]
          simp [bl]
        · have HT := Lib.hid hT
          clear hT
          go_enter Tryz.func36, Tryz.ntmps36
          go_wp2_with fail
          go_region_held3 (fun w' => w'.cell? ⟨w.heap.size, 0, none⟩ = some (.bool true) ∧ w'.cell? ⟨w.heap.size, 1, none⟩ = some (.slice A1 l1 c1) ∧ w'.cell? ⟨w.heap.size, 2, none⟩ = some (.slice A2 l2 c2))
            (first | (with_reducible exact k3.out.three) | (with_reducible exact k2.out.three) | (with_reducible exact k1.out.three) | (with_reducible exact kd.out.three) | go_keep)
            (first
              | (go_at_call 70; go_loud ((with_reducible refine (T2 _ _ _ N2.out).mono ?_); rintro e w3 ⟨rfl, hb⟩; have k3 := Lib.hid (k2.out.up hb); obtain ⟨t0, t1, t2⟩ := k3.out.three; clear hb))
              | (go_at_call 71; go_loud ((with_reducible refine (DE _ k1.out.b).mono ?_); rintro e w2 ⟨A3, c3, rfl, hN, hb⟩; have k2 := Lib.hid (k1.out.up hb); have N2 := Lib.hid hN; obtain ⟨t0, t1, t2⟩ := k2.out.three; clear hN hb))
              | (go_at_call 70; go_loud ((with_reducible refine (T1 _ kd.out.b).mono ?_); rintro e w1 ⟨rfl, hb⟩; have k1 := Lib.hid (kd.out.up hb); obtain ⟨t0, t1, t2⟩ := k1.out.three; clear hb)))
          go_wp2
          go_ret2
          refine ⟨cal_str2 (bl_inj ?_) HS.out.symm, k3.out.b⟩
          show bl _ = P
          rw [HP.out, HT.out]
          try simp only [bl_app]
          simp [bl]
      · rw [decide_eq_false h1] at hone
        rw [if_neg h1] at hT
        clear h1
        cases x
        · have HT := Lib.hid hT
          clear hT
          go_enter Tryz.func36, Tryz.ntmps36
          go_wp2_with fail
          go_region_held3 (fun w' => w'.cell? ⟨w.heap.size, 0, none⟩ = some (.bool false) ∧ w'.cell? ⟨w.heap.size, 1, none⟩ = some (.slice A1 l1 c1) ∧ w'.cell? ⟨w.heap.size, 2, none⟩ = some (.slice A2 l2 c2))
            (first | (with_reducible exact k3.out.three) | (with_reducible exact k2.out.three) | (with_reducible exact k1.out.three) | (with_reducible exact kd.out.three) | go_keep)
            (first
              | (go_at_call 70; go_loud ((with_reducible refine (T2 _ _ _ N2.out).mono ?_); rintro e w3 ⟨rfl, hb⟩; have k3 := Lib.hid (k2.out.up hb); obtain ⟨t0, t1, t2⟩ := k3.out.three; clear hb))
              | (go_at_call 71; go_loud ((with_reducible refine (DE _ k1.out.b).mono ?_); rintro e w2 ⟨A3, c3, rfl, hN, hb⟩; have k2 := Lib.hid (k1.out.up hb); have N2 := Lib.hid hN; obtain ⟨t0, t1, t2⟩ := k2.out.three; clear hN hb))
              | (go_at_call 70; go_loud ((with_reducible refine (T1 _ kd.out.b).mono ?_); rintro e w1 ⟨rfl, hb⟩; have k1 := Lib.hid (kd.out.up hb); obtain ⟨t0, t1, t2⟩ := k1.out.three; clear hb)))
          go_wp2
          go_ret2
          refine ⟨cal_str2 (bl_inj ?_) HS.out.symm, k3.out.b⟩
          show bl _ = P
          rw [HP.out, HT.out]
          try simp only [bl_app]
          simp [bl]
        · have HT := Lib.hid hT
          clear hT
          go_enter Tryz.func36, Tryz.ntmps36
          go_wp2_with fail
          go_region_held3 (fun w' => w'.cell? ⟨w.heap.size, 0, none⟩ = some (.bool true) ∧ w'.cell? ⟨w.heap.size, 1, none⟩ = some (.slice A1 l1 c1) ∧ w'.cell? ⟨w.heap.size, 2, none⟩ = some (.slice A2 l2 c2))
            (first | (with_reducible exact k3.out.three) | (with_reducible exact k2.out.three) | (with_reducible exact k1.out.three) | (with_reducible exact kd.out.three) | go_keep)
            (first
              | (go_at_call 70; go_loud ((with_reducible refine (T2 _ _ _ N2.out).mono ?_); rintro e w3 ⟨rfl, hb⟩; have k3 := Lib.hid (k2.out.up hb); obtain ⟨t0, t1, t2⟩ := k3.out.three; clear hb))
              | (go_at_call 71; go_loud ((with_reducible refine (DE _ k1.out.b).mono ?_); rintro e w2 ⟨A3, c3, rfl, hN, hb⟩; have k2 := Lib.hid (k1.out.up hb); have N2 := Lib.hid hN; obtain ⟨t0, t1, t2⟩ := k2.out.three; clear hN hb))
              | (go_at_call 70; go_loud ((with_reducible refine (T1 _ kd.out.b).mono ?_); rintro e w1 ⟨rfl, hb⟩; have k1 := Lib.hid (kd.out.up hb); obtain ⟨t0, t1, t2⟩ := k1.out.three; clear hb)))
          go_wp2
          go_ret2
          refine ⟨cal_str2 (bl_inj ?_) HS.out.symm, k3.out.b⟩
          show bl _ = P
          rw [HP.out, HT.out]
          try simp only [bl_app]
          simp [bl]
    · rw [decide_eq_true c1', decide_eq_false c2'] at hsh
      have HS := Lib.hid (show sh = false from hsh)
      have HP := Lib.hid (show P = [] by rw [hput, hsh]; rfl)
      have i1 : ¬ (40 : Int) < (D1.size : Int) := by omega
      have i2 : (40 : Int) < (D2.size : Int) := by omega
      clear hsh hput c1' c2' hT hone
      go_enter Tryz.func36, Tryz.ntmps36
      go_wp2_with fail
      go_region_held3 (fun w' => w'.cell? ⟨w.heap.size, 0, none⟩ = some (.bool x) ∧ w'.cell? ⟨w.heap.size, 1, none⟩ = some (.slice A1 l1 c1) ∧ w'.cell? ⟨w.heap.size, 2, none⟩ = some (.slice A2 l2 c2))
        (first | (with_reducible exact k3.out.three) | (with_reducible exact k2.out.three) | (with_reducible exact k1.out.three) | (with_reducible exact kd.out.three) | go_keep)
        (first
          | (go_at_call 70; go_loud ((with_reducible refine (T2 _ _ _ N2.out).mono ?_); rintro e w3 ⟨rfl, hb⟩; have k3 := Lib.hid (k2.out.up hb); obtain ⟨t0, t1, t2⟩ := k3.out.three; clear hb))
          | (go_at_call 71; go_loud ((with_reducible refine (DE _ k1.out.b).mono ?_); rintro e w2 ⟨A3, c3, rfl, hN, hb⟩; have k2 := Lib.hid (k1.out.up hb); have N2 := Lib.hid hN; obtain ⟨t0, t1, t2⟩ := k2.out.three; clear hN hb))
          | (go_at_call 70; go_loud ((with_reducible refine (T1 _ kd.out.b).mono ?_); rintro e w1 ⟨rfl, hb⟩; have k1 := Lib.hid (kd.out.up hb); obtain ⟨t0, t1, t2⟩ := k1.out.three; clear hb)))
      go_wp2
      go_ret2
      exact ⟨cal_str2 (by rw [HP.out]) HS.out.symm, k3.out.b⟩
  · rw [decide_eq_false c1', Bool.false_and] at hsh
    have HS := Lib.hid (show sh = false from hsh)
    have HP := Lib.hid (show P = [] by rw [hput, hsh]; rfl)
    have i1 : (40 : Int) < (D1.size : Int) := by omega
    clear hsh hput c1' hT hone
    go_enter Tryz.func36, Tryz.ntmps36
    go_wp2_with fail
    go_region_held3 (fun w' => w'.cell? ⟨w.heap.size, 0, none⟩ = some (.bool x) ∧ w'.cell? ⟨w.heap.size, 1, none⟩ = some (.slice A1 l1 c1) ∧ w'.cell? ⟨w.heap.size, 2, none⟩ = some (.slice A2 l2 c2))
      (first | (with_reducible exact k3.out.three) | (with_reducible exact k2.out.three) | (with_reducible exact k1.out.three) | (with_reducible exact kd.out.three) | go_keep)
      (first
        | (go_at_call 70; go_loud ((with_reducible refine (T2 _ _ _ N2.out).mono ?_); rintro e w3 ⟨rfl, hb⟩; have k3 := Lib.hid (k2.out.up hb); obtain ⟨t0, t1, t2⟩ := k3.out.three; clear hb))
        | (go_at_call 71; go_loud ((with_reducible refine (DE _ k1.out.b).mono ?_); rintro e w2 ⟨A3, c3, rfl, hN, hb⟩; have k2 := Lib.hid (k1.out.up hb); have N2 := Lib.hid hN; obtain ⟨t0, t1, t2⟩ := k2.out.three; clear hN hb))
        | (go_at_call 70; go_loud ((with_reducible refine (T1 _ kd.out.b).mono ?_); rintro e w1 ⟨rfl, hb⟩; have k1 := Lib.hid (kd.out.up hb); obtain ⟨t0, t1, t2⟩ := k1.out.three; clear hb)))
    go_wp2
    go_ret2
    exact ⟨cal_str2 (by rw [HP.out]) HS.out.symm, k3.out.b⟩

end Go.Proofs.YthjnmnepjeegiaaGreatDoor
