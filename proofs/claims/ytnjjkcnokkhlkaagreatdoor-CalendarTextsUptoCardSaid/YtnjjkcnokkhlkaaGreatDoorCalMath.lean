namespace Go.Proofs.YtnjjkcnokkhlkaaGreatDoor.Cal

/-- Leap years. -/
def leap (c y : Int) : Bool :=
  if c = 1 then decide (y % 4 = 0) && (!decide (y % 100 = 0) || decide (y % 400 = 0))
  else if c = 2 then decide (y % 4 = 0) else decide (c = 4)

/-- The days of a month. -/
def mlen (c y m : Int) : Int :=
  if c = 5 then 30 else if m = 4 ∨ m = 6 ∨ m = 9 ∨ m = 11 then 30
  else if m = 2 then (if leap c y = true then 29 else 28) else 31

/-- The days of a year. -/
def ylen (c y : Int) : Int := if c = 5 then 360 else if leap c y = true then 366 else 365

/-- The day number of 1 January. -/
def first (c y : Int) : Int :=
  if c = 1 then 365 * y + (y + 3) / 4 - (y + 99) / 100 + (y + 399) / 400
  else if c = 2 then 365 * y + (y + 3) / 4
  else if c = 4 then 366 * y else if c = 5 then 360 * y else 365 * y

/-- The days of 400 years. -/
def cyc (c : Int) : Int :=
  if c = 1 then 146097 else if c = 2 then 146100 else if c = 4 then 146400 else if c = 5 then 144000 else 146000

/-- The days before a month. -/
def cum (c y m : Int) : Int :=
  if c = 5 then 30 * (m - 1) else
  (if m ≤ 1 then 0 else if m = 2 then 31 else if m = 3 then 59 else if m = 4 then 90 else if m = 5 then 120 else if m = 6 then 151 else if m = 7 then 181
   else if m = 8 then 212 else if m = 9 then 243 else if m = 10 then 273 else if m = 11 then 304 else if m = 12 then 334 else 365)
  + (if 3 ≤ m ∧ leap c y = true then 1 else 0)

theorem mod4 (y : Int) (h : y % 400 = 0) : y % 4 = 0 ∧ y % 100 = 0 := by omega

theorem first_succ (c y : Int) : first c (y + 1) = first c y + ylen c y := by
  unfold first ylen leap
  by_cases h1 : c = 1
  · subst h1
    by_cases a : y % 4 = 0 <;> by_cases b : y % 100 = 0 <;> by_cases d : y % 400 = 0 <;> simp [a, b, d] <;> omega
  by_cases h2 : c = 2
  · subst h2
    by_cases a : y % 4 = 0 <;> simp [a] <;> omega
  by_cases h4 : c = 4
  · subst h4; simp; omega
  by_cases h5 : c = 5
  · subst h5; simp; omega
  simp [h1, h2, h4, h5]; omega

theorem first_cyc (c q r : Int) : first c (400 * q + r) = q * cyc c + first c r := by
  unfold first cyc
  by_cases h1 : c = 1
  · subst h1; simp; omega
  by_cases h2 : c = 2
  · subst h2; simp; omega
  by_cases h4 : c = 4
  · subst h4; simp; omega
  by_cases h5 : c = 5
  · subst h5; simp; omega
  simp [h1, h2, h4, h5]; omega

theorem first_zero (c : Int) : first c 0 = 0 := by
  unfold first
  by_cases h1 : c = 1
  · subst h1; rfl
  by_cases h2 : c = 2
  · subst h2; rfl
  simp [h1, h2]

theorem leap_cyc (c q r : Int) : leap c (400 * q + r) = leap c r := by
  unfold leap
  have h1 : (400 * q + r) % 4 = r % 4 := by omega
  have h2 : (400 * q + r) % 100 = r % 100 := by omega
  have h3 : (400 * q + r) % 400 = r % 400 := by omega
  rw [h1, h2, h3]

theorem ylen_pos (c y : Int) : 360 ≤ ylen c y ∧ ylen c y ≤ 366 := by
  unfold ylen; split
  · omega
  · split <;> omega

theorem mlen_bd (c y m : Int) : 28 ≤ mlen c y m ∧ mlen c y m ≤ 31 := by
  unfold mlen
  split
  · omega
  · split
    · omega
    · split
      · split <;> omega
      · omega

theorem cum_one (c y : Int) : cum c y 1 = 0 := by
  unfold cum; split <;> simp

theorem cum_succ (c y m : Int) (h1 : 1 ≤ m) (h2 : m ≤ 12) : cum c y (m + 1) = cum c y m + mlen c y m := by
  unfold cum mlen
  by_cases h5 : c = 5
  · simp [h5]; omega
  · rw [if_neg h5, if_neg h5, if_neg h5]
    have hm : m = 1 ∨ m = 2 ∨ m = 3 ∨ m = 4 ∨ m = 5 ∨ m = 6 ∨ m = 7 ∨ m = 8 ∨ m = 9 ∨ m = 10 ∨ m = 11 ∨ m = 12 := by omega
    cases hl : leap c y <;> rcases hm with rfl | rfl | rfl | rfl | rfl | rfl | rfl | rfl | rfl | rfl | rfl | rfl <;> simp

theorem cum_year (c y : Int) : cum c y 13 = ylen c y := by
  unfold cum ylen
  by_cases h5 : c = 5
  · simp [h5]
  · rw [if_neg h5, if_neg h5]
    cases hl : leap c y <;> simp

/-- The number of a date. -/
def num (c y m d : Int) : Int := first c y + cum c y m + d - 1

/-- Valid dates. -/
def Vld (c y m d : Int) : Prop := 1 ≤ c ∧ c ≤ 5 ∧ -9999 ≤ y ∧ y ≤ 9999 ∧ 1 ≤ m ∧ m ≤ 12 ∧ 1 ≤ d ∧ d ≤ mlen c y m
def vld (c y m d : Int) : Bool := decide (1 ≤ c ∧ c ≤ 5 ∧ -9999 ≤ y ∧ y ≤ 9999 ∧ 1 ≤ m ∧ m ≤ 12 ∧ 1 ≤ d ∧ d ≤ mlen c y m)
theorem vld_iff (c y m d : Int) : vld c y m d = true ↔ Vld c y m d := by unfold vld Vld; simp

theorem first_mono_nat (c y : Int) (k : Nat) : first c y + 360 * k ≤ first c (y + k) := by
  induction k with
  | zero => simp
  | succ k ih =>
    have h := first_succ c (y + k)
    have h2 := ylen_pos c (y + k)
    have e : y + ((k + 1 : Nat) : Int) = y + k + 1 := by omega
    rw [e, h]; omega

theorem first_mono (c y z : Int) (h : y ≤ z) : first c y + 360 * (z - y) ≤ first c z := by
  have := first_mono_nat c y (z - y).toNat
  have e : y + ((z - y).toNat : Int) = z := by omega
  rw [e] at this; omega

theorem first_up_nat (c y : Int) (k : Nat) : first c (y + k) ≤ first c y + 366 * k := by
  induction k with
  | zero => simp
  | succ k ih =>
    have h := first_succ c (y + k)
    have h2 := ylen_pos c (y + k)
    have e : y + ((k + 1 : Nat) : Int) = y + k + 1 := by omega
    rw [e, h]; omega

theorem first_bd (c y : Int) (h1 : -20000 ≤ y) (h2 : y ≤ 20000) : -7320000 ≤ first c y ∧ first c y ≤ 7320000 := by
  unfold first
  split
  · omega
  · split
    · omega
    · split
      · omega
      · split <;> omega

/-- The year of a day number is unique. -/
theorem year_uniq (c n y z : Int) (a1 : first c y ≤ n) (a2 : n < first c (y + 1)) (b1 : first c z ≤ n) (b2 : n < first c (z + 1)) : y = z := by
  by_cases h : y < z
  · have := first_mono c (y + 1) z (by omega); omega
  by_cases h' : z < y
  · have := first_mono c (z + 1) y (by omega); omega
  omega

theorem cum_mono_nat (c y : Int) (m : Int) (k : Nat) (h1 : 1 ≤ m) (h2 : m + k ≤ 13) : cum c y m + 28 * k ≤ cum c y (m + k) := by
  induction k with
  | zero => simp
  | succ k ih =>
    have h := cum_succ c y (m + k) (by omega) (by omega)
    have h2 := mlen_bd c y (m + k)
    have e : m + ((k + 1 : Nat) : Int) = m + k + 1 := by omega
    rw [e, h]; have := ih (by omega); omega

theorem cum_mono (c y m k : Int) (h1 : 1 ≤ m) (h : m ≤ k) (h2 : k ≤ 13) : cum c y m + 28 * (k - m) ≤ cum c y k := by
  have := cum_mono_nat c y m (k - m).toNat h1 (by omega)
  have e : m + ((k - m).toNat : Int) = k := by omega
  rw [e] at this; omega

theorem month_uniq (c y r m k : Int) (hm1 : 1 ≤ m) (hm2 : m ≤ 12) (hk1 : 1 ≤ k) (hk2 : k ≤ 12) (a1 : cum c y m ≤ r) (a2 : r < cum c y (m + 1)) (b1 : cum c y k ≤ r) (b2 : r < cum c y (k + 1)) : m = k := by
  by_cases h : m < k
  · have := cum_mono c y (m + 1) k (by omega) (by omega) (by omega); omega
  by_cases h' : k < m
  · have := cum_mono c y (k + 1) m (by omega) (by omega) (by omega); omega
  omega

theorem cum_bd (c y m : Int) (h1 : 1 ≤ m) (h2 : m ≤ 13) : 0 ≤ cum c y m ∧ cum c y m ≤ 366 := by
  have a := cum_mono c y 1 m (by omega) h1 h2
  have b := cum_mono c y m 13 h1 h2 (by omega)
  rw [cum_one] at a; rw [cum_year] at b
  have := ylen_pos c y
  omega

/-- The date with a number. -/
theorem date_uniq (c y m d z k e : Int) (h : Vld c y m d) (h' : Vld c z k e) (heq : num c y m d = num c z k e) : y = z ∧ m = k ∧ d = e := by
  obtain ⟨_, _, _, _, m1, m2, d1, d2⟩ := h
  obtain ⟨_, _, _, _, k1, k2, e1, e2⟩ := h'
  unfold num at heq
  have s1 := cum_succ c y m m1 m2
  have s2 := cum_succ c z k k1 k2
  have b1 := cum_bd c y m (by omega) (by omega)
  have b2 := cum_bd c z k (by omega) (by omega)
  have t1 := cum_mono c y (m + 1) 13 (by omega) (by omega) (by omega)
  have t2 := cum_mono c z (k + 1) 13 (by omega) (by omega) (by omega)
  rw [cum_year] at t1 t2
  have f1 := first_succ c y
  have f2 := first_succ c z
  obtain rfl : y = z := year_uniq c (first c y + cum c y m + d - 1) y z (by omega) (by omega) (by omega) (by omega)
  obtain rfl : m = k := month_uniq c y (cum c y m + d - 1) m k m1 m2 k1 k2 (by omega) (by omega) (by omega) (by omega)
  exact ⟨rfl, rfl, by omega⟩

/-- The year of a day number, from a year on, by steps. -/
def findYear (c n : Int) : Nat → Int → Int
  | 0, y => y
  | k + 1, y => if first c (y + 1) ≤ n then findYear c n k (y + 1) else y
def yearOf (c n : Int) : Int := findYear c n 19998 (-9999)

theorem findYear_spec (c n : Int) (k : Nat) (y : Int) (h1 : first c y ≤ n) (h2 : n < first c (y + k + 1)) :
    y ≤ findYear c n k y ∧ findYear c n k y ≤ y + k ∧ first c (findYear c n k y) ≤ n ∧ n < first c (findYear c n k y + 1) := by
  induction k generalizing y with
  | zero => simp [findYear]; exact ⟨h1, by simpa using h2⟩
  | succ k ih =>
    unfold findYear
    have e : y + ((k + 1 : Nat) : Int) + 1 = y + 1 + k + 1 := by omega
    rw [e] at h2
    split
    · next h => have := ih (y + 1) h h2; omega
    · omega

/-- There is a date with this number. -/
def Has (c n : Int) : Prop := 1 ≤ c ∧ c ≤ 5 ∧ first c (-9999) ≤ n ∧ n < first c 10000
def has (c n : Int) : Bool := decide (1 ≤ c ∧ c ≤ 5 ∧ first c (-9999) ≤ n ∧ n < first c 10000)
theorem has_iff (c n : Int) : has c n = true ↔ Has c n := by unfold has Has; simp

theorem yearOf_spec (c n : Int) (h1 : first c (-9999) ≤ n) (h2 : n < first c 10000) :
    -9999 ≤ yearOf c n ∧ yearOf c n ≤ 9999 ∧ first c (yearOf c n) ≤ n ∧ n < first c (yearOf c n + 1) := by
  have := findYear_spec c n 19998 (-9999) h1 h2
  unfold yearOf; omega

theorem yearOf_eq (c n y : Int) (h0 : -9999 ≤ y) (h3 : y ≤ 9999) (h1 : first c y ≤ n) (h2 : n < first c (y + 1)) : yearOf c n = y := by
  have a := first_mono c (-9999) y (by omega)
  have b := first_mono c (y + 1) 10000 (by omega)
  have s := yearOf_spec c n (by omega) (by omega)
  exact year_uniq c n _ _ s.2.2.1 s.2.2.2 h1 h2

def findMonth (c y r : Int) : Nat → Int → Int
  | 0, m => m
  | k + 1, m => if cum c y (m + 1) ≤ r then findMonth c y r k (m + 1) else m
def monthOf (c y r : Int) : Int := findMonth c y r 11 1

theorem findMonth_spec (c y r : Int) (k : Nat) (m : Int) (h1 : cum c y m ≤ r) (h2 : r < cum c y (m + k + 1)) :
    m ≤ findMonth c y r k m ∧ findMonth c y r k m ≤ m + k ∧ cum c y (findMonth c y r k m) ≤ r ∧ r < cum c y (findMonth c y r k m + 1) := by
  induction k generalizing m with
  | zero => simp [findMonth]; exact ⟨h1, by simpa using h2⟩
  | succ k ih =>
    unfold findMonth
    have e : m + ((k + 1 : Nat) : Int) + 1 = m + 1 + k + 1 := by omega
    rw [e] at h2
    split
    · next h => have := ih (m + 1) h h2; omega
    · omega

theorem monthOf_spec (c y r : Int) (h1 : 0 ≤ r) (h2 : r < ylen c y) :
    1 ≤ monthOf c y r ∧ monthOf c y r ≤ 12 ∧ cum c y (monthOf c y r) ≤ r ∧ r < cum c y (monthOf c y r + 1) := by
  have a := cum_one c y
  have b := cum_year c y
  have := findMonth_spec c y r 11 1 (by omega) (by show r < cum c y 13; omega)
  unfold monthOf; omega

theorem monthOf_eq (c y r m : Int) (h0 : 1 ≤ m) (h3 : m ≤ 12) (h1 : cum c y m ≤ r) (h2 : r < cum c y (m + 1)) : monthOf c y r = m := by
  have a := cum_bd c y m (by omega) (by omega)
  have b := cum_mono c y (m + 1) 13 (by omega) (by omega) (by omega)
  rw [cum_year] at b
  have s := monthOf_spec c y r (by omega) (by omega)
  exact month_uniq c y r _ _ s.1 s.2.1 h0 h3 s.2.2.1 s.2.2.2 h1 h2

/-- The date of a day number: year, month, day. -/
def dY (c n : Int) : Int := yearOf c n
def dM (c n : Int) : Int := monthOf c (dY c n) (n - first c (dY c n))
def dD (c n : Int) : Int := n - first c (dY c n) - cum c (dY c n) (dM c n) + 1

theorem date_spec (c n : Int) (h : Has c n) : Vld c (dY c n) (dM c n) (dD c n) ∧ num c (dY c n) (dM c n) (dD c n) = n := by
  obtain ⟨c1, c2, h1, h2⟩ := h
  have a := yearOf_spec c n h1 h2
  have f := first_succ c (yearOf c n)
  have b := monthOf_spec c (yearOf c n) (n - first c (yearOf c n)) (by omega) (by omega)
  have s := cum_succ c (yearOf c n) (monthOf c (yearOf c n) (n - first c (yearOf c n))) (by omega) (by omega)
  refine ⟨⟨c1, c2, a.1, a.2.1, b.1, b.2.1, ?_, ?_⟩, ?_⟩
  · unfold dD dM dY; omega
  · unfold dD dM dY; omega
  · unfold num dD dM dY; omega

theorem num_has (c y m d : Int) (h : Vld c y m d) : Has c (num c y m d) := by
  obtain ⟨c1, c2, y1, y2, m1, m2, d1, d2⟩ := h
  have s := cum_succ c y m m1 m2
  have b := cum_bd c y m (by omega) (by omega)
  have t := cum_mono c y (m + 1) 13 (by omega) (by omega) (by omega)
  rw [cum_year] at t
  have f := first_succ c y
  have g1 := first_mono c (-9999) y (by omega)
  have g2 := first_mono c (y + 1) 10000 (by omega)
  refine ⟨c1, c2, ?_, ?_⟩ <;> unfold num <;> omega

theorem date_num (c y m d : Int) (h : Vld c y m d) : dY c (num c y m d) = y ∧ dM c (num c y m d) = m ∧ dD c (num c y m d) = d := by
  have s := date_spec c _ (num_has c y m d h)
  exact date_uniq c _ _ _ _ _ _ s.1 h s.2

end Go.Proofs.YtnjjkcnokkhlkaaGreatDoor.Cal
