/- Texts Bk ScA UnC UnH SyA UnD SyB ScD UnI RowM Tak SyE SyF RqA RqE RqB RqC RqD EqU TakB -/
import Derived.Test.YtnablanoaglioaaGreatDoorG15
import Derived.Test.YtnablanoaglioaaGreatDoorG14
import Derived.Test.YtnablanoaglioaaGreatDoorG4
import Derived.Test.YtnablanoaglioaaGreatDoorG2
import Derived.Deep.MidRow
import Derived.Deep.RegionHeld3
import Derived.Laws.OwnMore
import Derived.Maps.AppendAt
import Derived.Laws.IdiomStrings
import Derived.ChangeKeysEq
namespace Go.Proofs.YtnablanoaglioaaGreatDoor
open Go.RowKit Go.Proofs.YtnablanoaglioaaGreatDoor.Dg Go.Proofs.YtnablanoaglioaaGreatDoor.Q

def Bk (w : World) (g : Nat) (C : Array Value) (t : TypeId) : Prop := w.heap[g]? = some (.cells C t (0, 0))
theorem Bk.below {w w' : World} {g B : Nat} {C : Array Value} {t : TypeId} (h : Bk w g C t) (hb : Below B w w') (hg : g < B) : Bk w' g C t := (hb.block g hg).trans h
theorem Bk.cell {w : World} {g : Nat} {C : Array Value} {t : TypeId} (h : Bk w g C t) (i : Nat) : w.cell? ⟨g, i, none⟩ = C[i]? := by
  unfold Bk at h
  simp [World.cell?, h]
theorem Bk.frozen {w : World} {g : Nat} {C : Array Value} {t : TypeId} (h : Bk w g C t) (i : Nat) : w.frozen? ⟨g, i, none⟩ = false := by
  unfold Bk at h
  simp [World.frozen?, h]
theorem Bk.new (w : World) (C : Array Value) (t : TypeId) : Bk (w.alloc (.cells C t)) w.heap.size C t := Deep.blk_alloc_new w _
theorem Bk.lt {w : World} {g : Nat} {C : Array Value} {t : TypeId} (h : Bk w g C t) : g < w.heap.size := by
  rcases Nat.lt_or_ge g w.heap.size with h1 | h1
  · exact h1
  · unfold Bk at h
    rw [Array.getElem?_eq_none h1] at h
    cases h
theorem Bk.alloc {w : World} {g : Nat} {C D : Array Value} {t u : TypeId} (h : Bk w g C t) : Bk (w.alloc (.cells D u)) g C t := (Deep.blk_alloc_lt w _ g h.lt).trans h
theorem Bk.up {w w' : World} {g : Nat} {C : Array Value} {t : TypeId} (h : Bk w g C t) (hb : Below w.heap.size w w') : Bk w' g C t := h.below hb h.lt
theorem Bk.set {w : World} {g i : Nat} {C : Array Value} {t : TypeId} (h : Bk w g C t) (v : Value) : Bk (w.setCell ⟨g, i, none⟩ v) g (C.setIfInBounds i v) t := by
  unfold Bk at *
  simp [World.setCell, Array.getElem?_modify, h]
theorem Bk.set_other {w : World} {g h i : Nat} {C : Array Value} {t : TypeId} (k : Bk w g C t) (v : Value) (hne : g ≠ h) : Bk (w.setCell ⟨h, i, none⟩ v) g C t := by
  unfold Bk at *
  simp only [World.setCell, Array.getElem?_modify]
  rw [if_neg (fun e => hne e.symm)]
  exact k
def putL (w : World) (g : Nat) : Nat → List Value → World
  | _, [] => w
  | i, v :: l => putL (w.setCell ⟨g, i, none⟩ v) g (i + 1) l
theorem putL_size (g : Nat) (l : List Value) : ∀ (w : World) (i : Nat), (putL w g i l).heap.size = w.heap.size := by
  induction l with
  | nil => intro w i; rfl
  | cons v l ih => intro w i; rw [putL, ih]; simp [World.setCell]
theorem putL_below {B g : Nat} (hg : B ≤ g) (l : List Value) : ∀ {w0 w : World} (i : Nat), Below B w0 w → Below B w0 (putL w g i l) := by
  induction l with
  | nil => intro w0 w i h; exact h
  | cons v l ih => intro w0 w i h; exact ih (i + 1) (h.setCell hg v)
theorem putL_block {g k : Nat} (hk : k ≠ g) (l : List Value) : ∀ (w : World) (i : Nat), (putL w g i l).heap[k]? = w.heap[k]? := by
  induction l with
  | nil => intro w i; rfl
  | cons v l ih =>
    intro w i
    rw [putL, ih]
    simp only [World.setCell, Array.getElem?_modify]
    rw [if_neg (fun e => hk e.symm)]
theorem Bk.put_other {w : World} {g h : Nat} {C : Array Value} {t : TypeId} (k : Bk w g C t) (i : Nat) (l : List Value) (hne : g ≠ h) : Bk (putL w h i l) g C t := (putL_block hne l w i).trans k
theorem Bk.put_at {g : Nat} {t : TypeId} (l : List Value) : ∀ {w : World} (pre old : List Value), Bk w g (pre ++ old).toArray t → old.length = l.length → Bk (putL w g pre.length l) g (pre ++ l).toArray t := by
  induction l with
  | nil => intro w pre old h e; rw [List.length_eq_zero_iff.1 e] at h; exact h
  | cons v l ih =>
    intro w pre old h e
    cases old with
    | nil => cases e
    | cons o old =>
      have h2 := h.set (i := pre.length) v
      have e2 : (pre ++ o :: old).toArray.setIfInBounds pre.length v = ((pre ++ [v]) ++ old).toArray := by
        rw [List.setIfInBounds_toArray]
        congr 1
        rw [List.set_append_right _ _ (Nat.le_refl _), Nat.sub_self, List.set_cons_zero, List.append_assoc]
        rfl
      rw [e2] at h2
      have h3 := ih (pre ++ [v]) old h2 (by simpa using e)
      rw [List.length_append, List.append_assoc] at h3
      exact h3
theorem Bk.put {w : World} {g : Nat} {C : Array Value} {t : TypeId} (h : Bk w g C t) (l : List Value) (e : C.size = l.length) : Bk (putL w g 0 l) g l.toArray t := by
  cases C with
  | mk c => exact Bk.put_at l [] c h (by simpa using e)
theorem put9_below {w0 w : World} {B g : Nat} {v0 v1 v2 v3 v4 v5 v6 v7 v8 : Value} (h : Below B w0 w) (hg : B ≤ g) : Below B w0 (((((((((w.setCell ⟨g, 0, none⟩ v0).setCell ⟨g, 1, none⟩ v1).setCell ⟨g, 2, none⟩ v2).setCell ⟨g, 3, none⟩ v3).setCell ⟨g, 4, none⟩ v4).setCell ⟨g, 5, none⟩ v5).setCell ⟨g, 6, none⟩ v6).setCell ⟨g, 7, none⟩ v7).setCell ⟨g, 8, none⟩ v8) := putL_below hg [v0, v1, v2, v3, v4, v5, v6, v7, v8] 0 h
def notK (k : IntKind) : Value → Bool
  | .int k' _ => k' != k
  | _ => true
theorem Fs.ne_block {k : IntKind} {w : World} {g b off : Nat} {C : Array Value} {t : TypeId} (hr : Bk w g C t) (hC : C.all (notK k) = true) {j : Nat} {v : Int} (hc : w.cell? ⟨b, off + j, none⟩ = some (.int k v)) : b ≠ g := by
  rintro rfl
  rw [hr.cell] at hc
  have := Array.all_eq_true'.1 hC _ (Array.mem_of_getElem? hc)
  simp [notK] at this
theorem Fs.putL {k : IntKind} {w : World} {B n c g : Nat} {A : Option Addr} {o : Nat → Nat} {C : Array Value} {t : TypeId} (h : Fs k w B A n c o) (hr : Bk w g C t) (hC : C.all (notK k) = true) (i : Nat) (l : List Value) : Fs k (Go.Proofs.YtnablanoaglioaaGreatDoor.putL w g i l) B A n c o :=
  ⟨h.1, h.2.1, fun hn => by
    obtain ⟨bk, off, e, hlt, hc⟩ := h.2.2 hn
    refine ⟨bk, off, e, hlt, fun j hj => ?_⟩
    have hne : bk ≠ g := Fs.ne_block hr hC (hc j hj)
    rw [← hc j hj]
    simp only [World.cell?]
    rw [putL_block hne l w i]⟩
theorem Nt.putL {k : IntKind} {w : World} {A : Option Addr} {c v g : Nat} {C : Array Value} {t : TypeId} (h : Nt k w w.heap.size A c v) (hr : Bk w g C t) (hC : C.all (notK k) = true) (i : Nat) (l : List Value) :
    Nt k (Go.Proofs.YtnablanoaglioaaGreatDoor.putL w g i l) (Go.Proofs.YtnablanoaglioaaGreatDoor.putL w g i l).heap.size A c v := by
  rw [putL_size]
  exact Fs.putL h hr hC i l
theorem Fr.putL {w : World} {v : Value} {q : Rat} {g : Nat} {C : Array Value} {t : TypeId} (h : Fr w v q) (hr : Bk w g C t) (hC : C.all (notK .u32) = true) (i : Nat) (l : List Value) : Fr (Go.Proofs.YtnablanoaglioaaGreatDoor.putL w g i l) v q := by
  obtain ⟨A, c, A', c', e, h1, h2⟩ := h
  exact ⟨A, c, A', c', e, h1.putL hr hC i l, h2.putL hr hC i l⟩

end Go.Proofs.YtnablanoaglioaaGreatDoor
namespace Go.Proofs.YtnablanoaglioaaGreatDoor
open Go.RowKit Go.Proofs.YtnablanoaglioaaGreatDoor.Q

abbrev Rd (α : Type) := World → Nat → List Value → α → Prop
def Keeps {α : Type} (P : Rd α) : Prop := ∀ (w w' : World) (B : Nat) (vs : List Value) (x : α), P w B vs x → Below B w w' → P w' B vs x
def Lifts {α : Type} (P : Rd α) : Prop := ∀ (w : World) (B B' : Nat) (vs : List Value) (x : α), P w B vs x → B ≤ B' → P w B' vs x
def VL {α : Type} (P : Rd α) (m : Nat) (w : World) (B : Nat) (v : Value) (xs : List α) : Prop :=
  ∃ A n c, v = .slice A n c ∧ xs.length = n ∧ n ≤ c ∧ n ≤ 9223372036854775807 ∧ (A = none → c = 0) ∧ (0 < n → ∃ b off, A = some ⟨b, off, none⟩ ∧ b < B ∧ ∀ k x, xs[k]? = some x → ∃ vs : List Value, vs.length = m ∧ w.rangeAt b (off + k * m) vs ∧ P w B vs x)
theorem rangeAt_keep {w w' : World} {B b o : Nat} {vs : List Value} (h : w.rangeAt b o vs) (hb : Below B w w') (hlt : b < B) : w'.rangeAt b o vs := fun j v hv => (hb.cell (p := ⟨b, o + j, none⟩) hlt).trans (h j v hv)
theorem VL.keeps {α : Type} {P : Rd α} {m : Nat} (hP : Keeps P) {w w' : World} {B : Nat} {v : Value} {xs : List α} (h : VL P m w B v xs) (hb : Below B w w') : VL P m w' B v xs := by
  obtain ⟨A, n, c, e, h1, h2, h3, h4, h5⟩ := h
  refine ⟨A, n, c, e, h1, h2, h3, h4, fun hn => ?_⟩
  obtain ⟨b, off, e1, hlt, hx⟩ := h5 hn
  refine ⟨b, off, e1, hlt, fun k x hk => ?_⟩
  obtain ⟨vs, g1, g2, g3⟩ := hx k x hk
  exact ⟨vs, g1, rangeAt_keep g2 hb hlt, hP _ _ _ _ _ g3 hb⟩
theorem VL.lifts {α : Type} {P : Rd α} {m : Nat} (hP : Lifts P) {w : World} {B B' : Nat} {v : Value} {xs : List α} (h : VL P m w B v xs) (hb : B ≤ B') : VL P m w B' v xs := by
  obtain ⟨A, n, c, e, h1, h2, h3, h4, h5⟩ := h
  refine ⟨A, n, c, e, h1, h2, h3, h4, fun hn => ?_⟩
  obtain ⟨b, off, e1, hlt, hx⟩ := h5 hn
  refine ⟨b, off, e1, Nat.lt_of_lt_of_le hlt hb, fun k x hk => ?_⟩
  obtain ⟨vs, g1, g2, g3⟩ := hx k x hk
  exact ⟨vs, g1, g2, hP _ _ _ _ _ g3 hb⟩
theorem VL.nil {α : Type} {P : Rd α} {m : Nat} {w : World} {B : Nat} : VL P m w B (.slice none 0 0) [] := ⟨none, 0, 0, rfl, rfl, Nat.le_refl _, by omega, fun _ => rfl, fun h => absurd h (by omega)⟩
theorem VL.val {α : Type} {P : Rd α} {m : Nat} {w : World} {B : Nat} {v : Value} {xs : List α} (h : VL P m w B v xs) : ∃ A c, v = .slice A xs.length c ∧ xs.length ≤ c ∧ xs.length ≤ 9223372036854775807 := by
  obtain ⟨A, n, c, e, h1, h2, h3, _⟩ := h
  subst h1
  exact ⟨A, c, e, h2, h3⟩
theorem VL.get {α : Type} {P : Rd α} {m : Nat} {w : World} {B : Nat} {A : Option Addr} {n c k : Nat} {xs : List α} {x : α} (h : VL P m w B (.slice A n c) xs) (hk : xs[k]? = some x) : ∃ b off vs, A = some ⟨b, off, none⟩ ∧ b < B ∧ vs.length = m ∧ w.rangeAt b (off + k * m) vs ∧ P w B vs x := by
  obtain ⟨A', n', c', e, h1, _, _, _, h5⟩ := h
  injection e with e1 e2 e3
  subst e1 e2 e3
  have hlt := (List.getElem?_eq_some_iff.1 hk).1
  obtain ⟨b, off, e1, hlt, hx⟩ := h5 (by omega)
  obtain ⟨vs, g1, g2, g3⟩ := hx k x hk
  exact ⟨b, off, vs, e1, hlt, g1, g2, g3⟩
theorem VL.part {α : Type} {P : Rd α} {m : Nat} {w : World} {B : Nat} {A : Option Addr} {n c p q : Nat} {xs : List α} (h : VL P m w B (.slice A n c) xs) (hpq : p ≤ q) (hq : q ≤ n) : VL P m w B (.slice (if c = p then A else A.map (·.add (p * m))) (q - p) (c - p)) ((xs.take q).drop p) := by
  obtain ⟨A', n', c', e, h1, h2, h3, h4, h5⟩ := h
  injection e with e1 e2 e3
  subst e1 e2 e3
  refine ⟨_, _, _, rfl, by rw [List.length_drop, List.length_take, h1]; omega, by omega, by omega, fun hA => ?_, fun hn => ?_⟩
  · split at hA
    · omega
    · have := h4 (by simpa using hA); omega
  · obtain ⟨b, off, rfl, hlt, hx⟩ := h5 (by omega)
    refine ⟨b, off + p * m, ?_, hlt, fun k x hk => ?_⟩
    · rw [if_neg (by omega), Option.map_some, Addr.add_mid]
    · rw [List.getElem?_drop] at hk
      have hk2 : xs[p + k]? = some x := by
        rw [List.getElem?_take] at hk
        split at hk
        · exact hk
        · cases hk
      obtain ⟨vs, g1, g2, g3⟩ := hx _ x hk2
      exact ⟨vs, g1, by rw [Nat.add_assoc, ← Nat.add_mul]; exact g2, g3⟩

def inI (n : Int) : Prop := -9223372036854775808 ≤ n ∧ n ≤ 9223372036854775807
def kStr : Rd ByteArray := fun _ _ vs x => vs = [.string x] ∧ x.size ≤ 9223372036854775807
def kInt : Rd Int := fun _ _ vs x => vs = [.int .i64 x] ∧ inI x
theorem kStr_keeps : Keeps kStr := fun _ _ _ _ _ h _ => h
theorem kStr_lifts : Lifts kStr := fun _ _ _ _ _ h _ => h
theorem kInt_keeps : Keeps kInt := fun _ _ _ _ _ h _ => h
theorem kInt_lifts : Lifts kInt := fun _ _ _ _ _ h _ => h
structure AttrD where
  name : ByteArray
  kind : Int
  text : ByteArray
  nums : List ByteArray
structure DimD where
  name : ByteArray
  size : Int
  opn : Bool
structure StageD where
  kind : Int
  n : Int
  step : ByteArray
structure VarD where
  name : ByteArray
  typ : Int
  dims : List ByteArray
  chunks : List Int
  fill : ByteArray
  unit : ByteArray
  stages : List StageD
  attrs : List AttrD
structure GroupD where
  path : ByteArray
  dims : List DimD
  vars : List VarD
  attrs : List AttrD
def okS (x : ByteArray) : Prop := x.size ≤ 9223372036854775807
def kDim : Rd DimD := fun _ _ vs d => vs = [.string d.name, .int .i64 d.size, .bool d.opn] ∧ okS d.name ∧ inI d.size
def kStage : Rd StageD := fun _ _ vs s => vs = [.int .i64 s.kind, .int .i64 s.n, .string s.step] ∧ inI s.kind ∧ inI s.n ∧ okS s.step
def kAttr : Rd AttrD := fun w B vs a => ∃ v, vs = [.string a.name, .int .i64 a.kind, .string a.text, v] ∧ okS a.name ∧ inI a.kind ∧ okS a.text ∧ VL kStr 1 w B v a.nums
def kVar : Rd VarD := fun w B vs x => ∃ v1 v2 v3 v4, vs = [.string x.name, .int .i64 x.typ, v1, v2, .string x.fill, .string x.unit, v3, v4] ∧ okS x.name ∧ inI x.typ ∧ okS x.fill ∧ okS x.unit ∧ VL kStr 1 w B v1 x.dims ∧ VL kInt 1 w B v2 x.chunks ∧ VL kStage 3 w B v3 x.stages ∧ VL kAttr 4 w B v4 x.attrs
def kGroup : Rd GroupD := fun w B vs g => ∃ v1 v2 v3, vs = [.string g.path, v1, v2, v3] ∧ okS g.path ∧ VL kDim 3 w B v1 g.dims ∧ VL kVar 8 w B v2 g.vars ∧ VL kAttr 4 w B v3 g.attrs
abbrev VSchema (w : World) (B : Nat) (v : Value) (s : List GroupD) : Prop := VL kGroup 4 w B v s
theorem kDim_keeps : Keeps kDim := fun _ _ _ _ _ h _ => h
theorem kDim_lifts : Lifts kDim := fun _ _ _ _ _ h _ => h
theorem kStage_keeps : Keeps kStage := fun _ _ _ _ _ h _ => h
theorem kStage_lifts : Lifts kStage := fun _ _ _ _ _ h _ => h
theorem kAttr_keeps : Keeps kAttr := fun _ _ _ _ _ ⟨v, h1, h2, h3, h4, h5⟩ hb => ⟨v, h1, h2, h3, h4, h5.keeps kStr_keeps hb⟩
theorem kAttr_lifts : Lifts kAttr := fun _ _ _ _ _ ⟨v, h1, h2, h3, h4, h5⟩ hb => ⟨v, h1, h2, h3, h4, h5.lifts kStr_lifts hb⟩
theorem kVar_keeps : Keeps kVar := fun _ _ _ _ _ ⟨v1, v2, v3, v4, h1, h2, h3, h4, h5, h6, h7, h8, h9⟩ hb => ⟨v1, v2, v3, v4, h1, h2, h3, h4, h5, h6.keeps kStr_keeps hb, h7.keeps kInt_keeps hb, h8.keeps kStage_keeps hb, h9.keeps kAttr_keeps hb⟩
theorem kVar_lifts : Lifts kVar := fun _ _ _ _ _ ⟨v1, v2, v3, v4, h1, h2, h3, h4, h5, h6, h7, h8, h9⟩ hb => ⟨v1, v2, v3, v4, h1, h2, h3, h4, h5, h6.lifts kStr_lifts hb, h7.lifts kInt_lifts hb, h8.lifts kStage_lifts hb, h9.lifts kAttr_lifts hb⟩
theorem kGroup_keeps : Keeps kGroup := fun _ _ _ _ _ ⟨v1, v2, v3, h1, h2, h3, h4, h5⟩ hb => ⟨v1, v2, v3, h1, h2, h3.keeps kDim_keeps hb, h4.keeps kVar_keeps hb, h5.keeps kAttr_keeps hb⟩
theorem kGroup_lifts : Lifts kGroup := fun _ _ _ _ _ ⟨v1, v2, v3, h1, h2, h3, h4, h5⟩ hb => ⟨v1, v2, v3, h1, h2, h3.lifts kDim_lifts hb, h4.lifts kVar_lifts hb, h5.lifts kAttr_lifts hb⟩
end Go.Proofs.YtnablanoaglioaaGreatDoor
namespace Go.Proofs.YtnablanoaglioaaGreatDoor
open Go.RowKit Go.Proofs.YtnablanoaglioaaGreatDoor.Dg Go.Proofs.YtnablanoaglioaaGreatDoor.Q Go.Proofs.YtnablanoaglioaaGreatDoor.Num

structure Un where
  (F O : List UInt8)
  p : P7
deriving DecidableEq
def Un.none : Un := ⟨[], [], ⟨0, 0, 0, 0, 0, 0, 0⟩⟩
def Un.v (u : Un) : Value := uv ⟨u.F.toArray⟩ ⟨u.O.toArray⟩ u.p
def GiveU (w : World) (r : Un × Int) (e : Ending) (w' : World) : Prop := e = .returned (.tuple #[r.1.v, .int .i64 r.2]) ∧ Below w.heap.size w w'
def unC (F O : ByteArray) (p : P7) : Array Value := #[.string F, .string O, .int .i64 p.a, .int .i64 p.b, .int .i64 p.c, .int .i64 p.d, .int .i64 p.e, .int .i64 p.f, .int .i64 p.g]
def u0C : Array Value := #[.string ⟨#[]⟩, .string ⟨#[]⟩, .int .i64 0, .int .i64 0, .int .i64 0, .int .i64 0, .int .i64 0, .int .i64 0, .int .i64 0]
theorem Ub.up {w w' : World} {g : Nat} {F O : ByteArray} {p : P7} (h : Ub w g F O p) (hb : Below w.heap.size w w') : Ub w' g F O p := Bk.up (C := unC F O p) h hb
theorem u0_cells {w : World} {g : Nat} {t : TypeId} (h : Bk w g u0C t) : w.cell? ⟨g, 0, none⟩ = some (.string ⟨#[]⟩) ∧ w.cell? ⟨g, 1, none⟩ = some (.string ⟨#[]⟩) ∧ w.cell? ⟨g, 2, none⟩ = some (.int .i64 0) ∧ w.cell? ⟨g, 3, none⟩ = some (.int .i64 0) ∧ w.cell? ⟨g, 4, none⟩ = some (.int .i64 0) ∧ w.cell? ⟨g, 5, none⟩ = some (.int .i64 0) ∧ w.cell? ⟨g, 6, none⟩ = some (.int .i64 0) ∧ w.cell? ⟨g, 7, none⟩ = some (.int .i64 0) ∧ w.cell? ⟨g, 8, none⟩ = some (.int .i64 0) :=
  ⟨h.cell 0, h.cell 1, h.cell 2, h.cell 3, h.cell 4, h.cell 5, h.cell 6, h.cell 7, h.cell 8⟩
theorem Bk.frozen9 {w : World} {g : Nat} {t : TypeId} {C : Array Value} (h : Bk w g C t) : w.frozen? ⟨g, 0, none⟩ = false ∧ w.frozen? ⟨g, 1, none⟩ = false ∧ w.frozen? ⟨g, 2, none⟩ = false ∧ w.frozen? ⟨g, 3, none⟩ = false ∧ w.frozen? ⟨g, 4, none⟩ = false ∧ w.frozen? ⟨g, 5, none⟩ = false ∧ w.frozen? ⟨g, 6, none⟩ = false ∧ w.frozen? ⟨g, 7, none⟩ = false ∧ w.frozen? ⟨g, 8, none⟩ = false :=
  ⟨h.frozen 0, h.frozen 1, h.frozen 2, h.frozen 3, h.frozen 4, h.frozen 5, h.frozen 6, h.frozen 7, h.frozen 8⟩
theorem Ub.frozen9 {w : World} {g : Nat} {F O : ByteArray} {p : P7} (h : Ub w g F O p) : w.frozen? ⟨g, 0, none⟩ = false ∧ w.frozen? ⟨g, 1, none⟩ = false ∧ w.frozen? ⟨g, 2, none⟩ = false ∧ w.frozen? ⟨g, 3, none⟩ = false ∧ w.frozen? ⟨g, 4, none⟩ = false ∧ w.frozen? ⟨g, 5, none⟩ = false ∧ w.frozen? ⟨g, 6, none⟩ = false ∧ w.frozen? ⟨g, 7, none⟩ = false ∧ w.frozen? ⟨g, 8, none⟩ = false := Bk.frozen9 (C := unC F O p) h
end Go.Proofs.YtnablanoaglioaaGreatDoor
namespace Go.Proofs.YtnablanoaglioaaGreatDoor
open Go.RowKit Dg Q Num Str

theorem Tryz.infoSetL : (Tryz.prog.info? (Tryz.lays161_ren.t 116)).map (fun i => (i.zero, i.size)) = some (some (.agg (Array.replicate 256 (.bool false))), 256) := by kernel_rfl
def cnt (l : List UInt8) : Nat := (l.takeWhile isD).length
theorem trimL_digits (l : List UInt8) : Lib.trimLeftS l cs10 = l.dropWhile isD := by
  unfold Lib.trimLeftS
  congr 1
  funext c
  exact mem_cs10 c
theorem cnt_drop (l : List UInt8) : cnt l + (l.dropWhile isD).length = l.length := by
  unfold cnt
  have := congrArg List.length (List.takeWhile_append_dropWhile (p := isD) (l := l))
  rw [List.length_append] at this
  exact this
theorem cnt_le (l : List UInt8) : cnt l ≤ l.length := by have := cnt_drop l; omega
theorem trimleft_any (S : ByteArray) (w : World) :
    Calls Tryz.prog 295 #[.string S, .string ⟨#[48, 49, 50, 51, 52, 53, 54, 55, 56, 57]⟩] w fun e w' => ∃ T : ByteArray, e = .returned (.string T) ∧ (T.size : Int) = (S.size : Int) - (cnt (bl S) : Int) ∧ Below w.heap.size w w' :=
  (Any.strings_TrimLeft_laid Tryz.lays161 Tryz.infoSetL S ⟨#[48, 49, 50, 51, 52, 53, 54, 55, 56, 57]⟩ w (by decide) (ascii_of_all (by decide))).mono fun e w' ⟨h1, h2⟩ => ⟨_, h1, by
    have := cnt_drop (bl S)
    rw [bl_len] at this
    rw [← bl_len, bl_mk, show (S.data.toList : List UInt8) = bl S from rfl, show (⟨#[48, 49, 50, 51, 52, 53, 54, 55, 56, 57]⟩ : ByteArray).data.toList = cs10 from rfl, trimL_digits]
    omega, h2⟩

set_option maxRecDepth 100000 in
set_option maxHeartbeats 1600000 in
theorem count_any (S : ByteArray) (hs : S.size ≤ 1000) (w : World) : Calls Tryz.prog 294 #[.string S] w fun e w' => e = .returned (.int .i64 (cnt (bl S))) ∧ Below w.heap.size w w' := by
  have T := trimleft_any S w
  have sb : (S.size : Int) ≤ 1000 := by omega
  have hle := cnt_le (bl S)
  rw [bl_len] at hle
  generalize cnt (bl S) = n at *
  have nb : (n : Int) ≤ (S.size : Int) := by omega
  have e1 : (S.size : Int) - ((S.size : Int) - (n : Int)) = (n : Int) := by omega
  go_enter Tryz.func294, Tryz.ntmps294
  go_wp2_with (go_at_call 295; go_loud (refine T.mono ?_; rintro e w1 ⟨T1, rfl, hT, hb⟩; have B := Lib.hid hb; clear hb))
  go_ret
  exact ⟨rfl, B.out⟩

def numb (l : List UInt8) : Nat :=
  if 0 < cnt l ∧ (l[cnt l]? = some 46 ∨ l[cnt l]? = some 47) then
    (if 0 < cnt (l.drop (cnt l + 1)) then cnt l + 1 + cnt (l.drop (cnt l + 1)) else cnt l)
  else cnt l
theorem byte_eq (c d : UInt8) : (c.toNat : Int) = (d.toNat : Int) ↔ c = d := by
  rw [Int.natCast_inj]
  exact UInt8.toNat_inj

set_option maxRecDepth 100000 in
set_option maxHeartbeats 3200000 in
theorem number_any (S : ByteArray) (hs : S.size ≤ 1000) (w : World) : Calls Tryz.prog 251 #[.string S] w fun e w' => e = .returned (.int .i64 (numb (bl S))) ∧ Below w.heap.size w w' := by
  have sb : (S.size : Int) ≤ 1000 := by omega
  have C1 := fun w => count_any S hs w
  have hle := cnt_le (bl S)
  rw [bl_len] at hle
  obtain ⟨X, hX⟩ : ∃ X, numb (bl S) = X := ⟨_, rfl⟩
  rw [hX]
  unfold numb at hX
  obtain ⟨n, hn⟩ : ∃ n, cnt (bl S) = n := ⟨_, rfl⟩
  rw [hn] at hX hle C1
  have nb : (n : Int) ≤ (S.size : Int) := by omega
  by_cases h0 : 0 < n
  rotate_left
  · rw [if_neg (fun h => h0 h.1)] at hX
    subst hX
    have g0 : ¬ (0 : Int) < (n : Int) := by omega
    clear h0 hn hle
    go_enter Tryz.func251, Tryz.ntmps251
    go_wp2_with (go_at_call 294; go_loud (refine (C1 _).mono ?_; rintro e w1 ⟨rfl, hb⟩; have B1 := Lib.hid hb; clear hb))
    go_ret
    exact ⟨rfl, B1.out⟩
  have g0 : (0 : Int) < (n : Int) := by omega
  by_cases h1 : n < S.size
  rotate_left
  · rw [if_neg (fun h => by
      have hnone : (bl S)[n]? = none := List.getElem?_eq_none (by rw [bl_len]; omega)
      rcases h.2 with h | h <;> rw [hnone] at h <;> cases h)] at hX
    subst hX
    have g1 : ¬ (n : Int) < (S.size : Int) := by omega
    clear h0 h1 hn hle
    go_enter Tryz.func251, Tryz.ntmps251
    go_wp2_with (go_at_call 294; go_loud (refine (C1 _).mono ?_; rintro e w1 ⟨rfl, hb⟩; have B1 := Lib.hid hb; clear hb))
    go_ret
    exact ⟨rfl, B1.out⟩
  have g1 : (n : Int) < (S.size : Int) := by omega
  rw [bl_at S n h1] at hX
  have hsz : (S.extract (n + 1) S.size).size ≤ 1000 := by
    rw [← bl_len, bl_cut, List.length_take, List.length_drop, bl_len]; omega
  have hcut : bl (S.extract (n + 1) S.size) = (bl S).drop (n + 1) := by
    rw [bl_cut, List.take_of_length_le (by rw [List.length_drop, bl_len]; exact Nat.le_refl _)]
  have C2 := fun w => count_any (S.extract (n + 1) S.size) hsz w
  have hle2 := cnt_le ((bl S).drop (n + 1))
  rw [List.length_drop, bl_len] at hle2
  rw [hcut] at C2
  generalize cnt ((bl S).drop (n + 1)) = m at *
  have mb : (m : Int) ≤ (S.size : Int) := by omega
  have mb2 : (n : Int) + 1 + (m : Int) ≤ 1000 := by omega
  clear hsz hcut hle2 hle hn h0
  by_cases hc : (S[n].toNat : Int) = 46
  · rw [if_pos ⟨by omega, .inl (by rw [(byte_eq S[n] 46).1 hc])⟩] at hX
    by_cases hm : 0 < m
    · rw [if_pos hm] at hX
      have HX := Lib.hid (show (n : Int) + 1 + (m : Int) = (X : Int) by omega)
      have gm : (0 : Int) < (m : Int) := by omega
      clear hm hX
      go_enter Tryz.func251, Tryz.ntmps251
      go_wp2_with (first
        | (go_at_call 294; ((with_reducible refine (C2 _).mono ?_); rintro e w2 ⟨rfl, hb⟩; have B2 := Lib.hid (btrans B1.out hb); clear hb))
        | (go_at_call 294; ((with_reducible refine (C1 _).mono ?_); rintro e w1 ⟨rfl, hb⟩; have B1 := Lib.hid hb; clear hb)))
      go_ret
      exact ⟨by rw [← HX.out]; rfl, B2.out⟩
    · rw [if_neg hm] at hX
      subst hX
      have gm : ¬ (0 : Int) < (m : Int) := by omega
      clear hm
      go_enter Tryz.func251, Tryz.ntmps251
      go_wp2_with (first
        | (go_at_call 294; ((with_reducible refine (C2 _).mono ?_); rintro e w2 ⟨rfl, hb⟩; have B2 := Lib.hid (btrans B1.out hb); clear hb))
        | (go_at_call 294; ((with_reducible refine (C1 _).mono ?_); rintro e w1 ⟨rfl, hb⟩; have B1 := Lib.hid hb; clear hb)))
      go_ret
      exact ⟨rfl, B2.out⟩
  · by_cases hc2 : (S[n].toNat : Int) = 47
    · rw [if_pos ⟨by omega, .inr (by rw [(byte_eq S[n] 47).1 hc2])⟩] at hX
      by_cases hm : 0 < m
      · rw [if_pos hm] at hX
        have HX := Lib.hid (show (n : Int) + 1 + (m : Int) = (X : Int) by omega)
        have gm : (0 : Int) < (m : Int) := by omega
        clear hm hX
        go_enter Tryz.func251, Tryz.ntmps251
        go_wp2_with (first
          | (go_at_call 294; ((with_reducible refine (C2 _).mono ?_); rintro e w2 ⟨rfl, hb⟩; have B2 := Lib.hid (btrans B1.out hb); clear hb))
          | (go_at_call 294; ((with_reducible refine (C1 _).mono ?_); rintro e w1 ⟨rfl, hb⟩; have B1 := Lib.hid hb; clear hb)))
        go_ret
        exact ⟨by rw [← HX.out]; rfl, B2.out⟩
      · rw [if_neg hm] at hX
        subst hX
        have gm : ¬ (0 : Int) < (m : Int) := by omega
        clear hm
        go_enter Tryz.func251, Tryz.ntmps251
        go_wp2_with (first
          | (go_at_call 294; ((with_reducible refine (C2 _).mono ?_); rintro e w2 ⟨rfl, hb⟩; have B2 := Lib.hid (btrans B1.out hb); clear hb))
          | (go_at_call 294; ((with_reducible refine (C1 _).mono ?_); rintro e w1 ⟨rfl, hb⟩; have B1 := Lib.hid hb; clear hb)))
        go_ret
        exact ⟨rfl, B2.out⟩
    · rw [if_neg (fun h => by
        rcases h.2 with h | h
        · injection h with h; exact hc (by rw [h]; rfl)
        · injection h with h; exact hc2 (by rw [h]; rfl))] at hX
      subst hX
      clear C2
      have hc3 : ((S[n].toNat : Int) == 46) = false := by rw [beq_eq_false_iff_ne]; exact hc
      have hc4 : ((S[n].toNat : Int) == 47) = false := by rw [beq_eq_false_iff_ne]; exact hc2
      go_enter Tryz.func251, Tryz.ntmps251
      go_wp2_with (first
        | (go_at_call 294; ((with_reducible refine (C2 _).mono ?_); rintro e w2 ⟨rfl, hb⟩; have B2 := Lib.hid (btrans B1.out hb); clear hb))
        | (go_at_call 294; ((with_reducible refine (C1 _).mono ?_); rintro e w1 ⟨rfl, hb⟩; have B1 := Lib.hid hb; clear hb)))
      go_ret
      exact ⟨rfl, B1.out⟩

def isL (c : UInt8) : Bool := (decide (97 ≤ c.toNat) && decide (c.toNat ≤ 122)) || (decide (65 ≤ c.toNat) && decide (c.toNat ≤ 90))
def wrd (l : List UInt8) : Nat := (l.takeWhile isL).length
theorem tw_stop {p : UInt8 → Bool} : ∀ {l : List UInt8} {k : Nat}, (l.take k).all p = true → (∀ c, l[k]? = some c → p c = false) → k ≤ l.length → (l.takeWhile p).length = k
  | [], 0, _, _, _ => rfl
  | c :: l, 0, _, h, _ => by rw [List.takeWhile_cons, if_neg (by rw [h c rfl]; decide)]; rfl
  | [], k + 1, _, _, hk => absurd hk (by simp)
  | c :: l, k + 1, h, h2, hk => by
    rw [List.take_succ_cons, List.all_cons, Bool.and_eq_true] at h
    rw [List.takeWhile_cons, if_pos h.1, List.length_cons, tw_stop h.2 (fun d hd => h2 d hd) (by simpa using hk)]
theorem isL_bytes (c : UInt8) : isL c = true ↔ ((97 : Int) ≤ (c.toNat : Int) ∧ (c.toNat : Int) ≤ 122) ∨ ((65 : Int) ≤ (c.toNat : Int) ∧ (c.toNat : Int) ≤ 90) := by
  unfold isL
  rw [Bool.or_eq_true, Bool.and_eq_true, Bool.and_eq_true, decide_eq_true_iff, decide_eq_true_iff, decide_eq_true_iff, decide_eq_true_iff]
  omega

set_option maxRecDepth 100000 in
set_option maxHeartbeats 3200000 in
theorem word_any (S : ByteArray) (hs : S.size ≤ 1000) (w : World) : Calls Tryz.prog 253 #[.string S] w fun e w' => e = .returned (.int .i64 (wrd (bl S))) ∧ w = w' := by
  have sb : (S.size : Int) ≤ 1000 := by omega
  go_enter Tryz.func253, Tryz.ntmps253
  go_wp2
  go_loopw [3] (fun i wr => ∃ k : Nat, k ≤ S.size ∧ i = .int .i64 (k : Int) ∧ w = wr ∧ Hid (((bl S).take k).all isL = true)) (fun i _ => (S.size - intOf i).toNat)
  case atStart => exact ⟨0, Nat.zero_le _, rfl, rfl, rfl⟩
  case round =>
    obtain ⟨k, hk, rfl, rfl, hA⟩ := hrel
    by_cases hk0 : k = S.size
    · subst hk0
      have HW := Lib.hid (show wrd (bl S) = S.size from tw_stop hA.out (fun c hc => by rw [List.getElem?_eq_none (by rw [bl_len]; exact Nat.le_refl _)] at hc; cases hc) (by rw [bl_len]; exact Nat.le_refl _))
      clear hA
      go_wp2
      go_ret
      exact ⟨by rw [HW.out]; rfl, rfl⟩
    · have hlt : k < S.size := by omega
      have hi : (k : Int) < (S.size : Int) := by omega
      have hLB := isL_bytes S[k]
      have HA := Lib.hid (show isL S[k] = true → ((bl S).take (k + 1)).all isL = true from fun h => by rw [bl_take S k hlt, List.all_append, hA.out]; simp [h])
      have HW := Lib.hid (show isL S[k] = false → wrd (bl S) = k from fun h => tw_stop hA.out (fun c hc => by rw [bl_at S k hlt] at hc; injection hc with hc; rw [← hc]; exact h) (by rw [bl_len]; exact hk))
      clear hA hk0
      generalize isL S[k] = b at *
      by_cases h1 : (97 : Int) ≤ (S[k].toNat : Int)
      · by_cases h2 : (S[k].toNat : Int) ≤ 122
        · have HA2 := Lib.hid (HA.out (hLB.2 (.inl ⟨h1, h2⟩)))
          clear HA HW hLB
          go_wp2
          go_roundw
          case rel => exact ⟨k + 1, by omega, by go_num, by first | rfl | trivial, HA2⟩
          case measure => simp only [intOf]; omega
        · have h3 : ¬ (S[k].toNat : Int) ≤ 90 := by omega
          have h4 : (65 : Int) ≤ (S[k].toNat : Int) := by omega
          have HW2 := Lib.hid (HW.out (by cases b; rfl; (have := hLB.1 rfl; omega)))
          clear HA HW hLB
          go_wp2
          go_ret
          exact ⟨by rw [HW2.out]; rfl, rfl⟩
      · by_cases h2 : (65 : Int) ≤ (S[k].toNat : Int)
        · by_cases h3 : (S[k].toNat : Int) ≤ 90
          · have HA2 := Lib.hid (HA.out (hLB.2 (.inr ⟨h2, h3⟩)))
            clear HA HW hLB
            go_wp2
            go_roundw
            case rel => exact ⟨k + 1, by omega, by go_num, by first | rfl | trivial, HA2⟩
            case measure => simp only [intOf]; omega
          · have HW2 := Lib.hid (HW.out (by cases b; rfl; (have := hLB.1 rfl; omega)))
            clear HA HW hLB
            go_wp2
            go_ret
            exact ⟨by rw [HW2.out]; rfl, rfl⟩
        · have HW2 := Lib.hid (HW.out (by cases b; rfl; (have := hLB.1 rfl; omega)))
          clear HA HW hLB
          go_wp2
          go_ret
          exact ⟨by rw [HW2.out]; rfl, rfl⟩

def pfx (c : UInt8) : Option (List UInt8) :=
  if c = 110 then some [49, 47, 49, 48, 48, 48, 48, 48, 48, 48, 48, 48] else if c = 117 then some [49, 47, 49, 48, 48, 48, 48, 48, 48] else if c = 109 then some [49, 47, 49, 48, 48, 48] else
  if c = 99 then some [49, 47, 49, 48, 48] else if c = 100 then some [49, 47, 49, 48] else if c = 104 then some [49, 48, 48] else if c = 107 then some [49, 48, 48, 48] else
  if c = 77 then some [49, 48, 48, 48, 48, 48, 48] else if c = 71 then some [49, 48, 48, 48, 48, 48, 48, 48, 48, 48] else none

set_option maxRecDepth 100000 in
set_option maxHeartbeats 3200000 in
theorem prefix_any (c : UInt8) (w : World) : Calls Tryz.prog 298 #[.int .u8 (c.toNat : Int)] w fun e w' => e = .returned (.tuple #[.string ⟨((pfx c).getD []).toArray⟩, .bool (pfx c).isSome]) ∧ w = w' := by
  obtain ⟨X, hX⟩ : ∃ X, pfx c = X := ⟨_, rfl⟩
  rw [hX]
  unfold pfx at hX
  by_cases h110 : (c.toNat : Int) = 110
  · rw [if_pos ((byte_eq c 110).1 h110)] at hX
    subst hX
    go_enter Tryz.func298, Tryz.ntmps298
    go_wp2
    go_ret2
    exact ⟨rfl, rfl⟩
  rw [if_neg (fun e => h110 ((byte_eq c 110).2 e))] at hX
  by_cases h117 : (c.toNat : Int) = 117
  · rw [if_pos ((byte_eq c 117).1 h117)] at hX
    subst hX
    go_enter Tryz.func298, Tryz.ntmps298
    go_wp2
    go_ret2
    exact ⟨rfl, rfl⟩
  rw [if_neg (fun e => h117 ((byte_eq c 117).2 e))] at hX
  by_cases h109 : (c.toNat : Int) = 109
  · rw [if_pos ((byte_eq c 109).1 h109)] at hX
    subst hX
    go_enter Tryz.func298, Tryz.ntmps298
    go_wp2
    go_ret2
    exact ⟨rfl, rfl⟩
  rw [if_neg (fun e => h109 ((byte_eq c 109).2 e))] at hX
  by_cases h99 : (c.toNat : Int) = 99
  · rw [if_pos ((byte_eq c 99).1 h99)] at hX
    subst hX
    go_enter Tryz.func298, Tryz.ntmps298
    go_wp2
    go_ret2
    exact ⟨rfl, rfl⟩
  rw [if_neg (fun e => h99 ((byte_eq c 99).2 e))] at hX
  by_cases h100 : (c.toNat : Int) = 100
  · rw [if_pos ((byte_eq c 100).1 h100)] at hX
    subst hX
    go_enter Tryz.func298, Tryz.ntmps298
    go_wp2
    go_ret2
    exact ⟨rfl, rfl⟩
  rw [if_neg (fun e => h100 ((byte_eq c 100).2 e))] at hX
  by_cases h104 : (c.toNat : Int) = 104
  · rw [if_pos ((byte_eq c 104).1 h104)] at hX
    subst hX
    go_enter Tryz.func298, Tryz.ntmps298
    go_wp2
    go_ret2
    exact ⟨rfl, rfl⟩
  rw [if_neg (fun e => h104 ((byte_eq c 104).2 e))] at hX
  by_cases h107 : (c.toNat : Int) = 107
  · rw [if_pos ((byte_eq c 107).1 h107)] at hX
    subst hX
    go_enter Tryz.func298, Tryz.ntmps298
    go_wp2
    go_ret2
    exact ⟨rfl, rfl⟩
  rw [if_neg (fun e => h107 ((byte_eq c 107).2 e))] at hX
  by_cases h77 : (c.toNat : Int) = 77
  · rw [if_pos ((byte_eq c 77).1 h77)] at hX
    subst hX
    go_enter Tryz.func298, Tryz.ntmps298
    go_wp2
    go_ret2
    exact ⟨rfl, rfl⟩
  rw [if_neg (fun e => h77 ((byte_eq c 77).2 e))] at hX
  by_cases h71 : (c.toNat : Int) = 71
  · rw [if_pos ((byte_eq c 71).1 h71)] at hX
    subst hX
    go_enter Tryz.func298, Tryz.ntmps298
    go_wp2
    go_ret2
    exact ⟨rfl, rfl⟩
  rw [if_neg (fun e => h71 ((byte_eq c 71).2 e))] at hX
  subst hX
  go_enter Tryz.func298, Tryz.ntmps298
  go_wp2
  go_ret2
  exact ⟨rfl, rfl⟩
end Go.Proofs.YtnablanoaglioaaGreatDoor
namespace Go.Proofs.YtnablanoaglioaaGreatDoor
open Go.RowKit Dg Q Num Str

structure Sy where
  (name fac off : List UInt8)
  pre : Bool
  p : P7
deriving DecidableEq
def Sy.none : Sy := ⟨[], [], [], false, ⟨0, 0, 0, 0, 0, 0, 0⟩⟩
def Sy.L (s : Sy) : List Value := [.string ⟨s.name.toArray⟩, .string ⟨s.fac.toArray⟩, .string ⟨s.off.toArray⟩, .bool s.pre, .int .i64 s.p.a, .int .i64 s.p.b, .int .i64 s.p.c, .int .i64 s.p.d, .int .i64 s.p.e, .int .i64 s.p.f, .int .i64 s.p.g]
def Sy.v (s : Sy) : Value := .agg s.L.toArray
def syms : List Sy := [
  ⟨[109], [49], [48], true, ⟨1, 0, 0, 0, 0, 0, 0⟩⟩,
  ⟨[103], [49, 47, 49, 48, 48, 48], [48], true, ⟨0, 1, 0, 0, 0, 0, 0⟩⟩,
  ⟨[115], [49], [48], true, ⟨0, 0, 1, 0, 0, 0, 0⟩⟩,
  ⟨[75], [49], [48], true, ⟨0, 0, 0, 1, 0, 0, 0⟩⟩,
  ⟨[109, 111, 108], [49], [48], true, ⟨0, 0, 0, 0, 1, 0, 0⟩⟩,
  ⟨[65], [49], [48], true, ⟨0, 0, 0, 0, 0, 1, 0⟩⟩,
  ⟨[99, 100], [49], [48], true, ⟨0, 0, 0, 0, 0, 0, 1⟩⟩,
  ⟨[109, 105, 110], [54, 48], [48], false, ⟨0, 0, 1, 0, 0, 0, 0⟩⟩,
  ⟨[104], [51, 54, 48, 48], [48], false, ⟨0, 0, 1, 0, 0, 0, 0⟩⟩,
  ⟨[100], [56, 54, 52, 48, 48], [48], false, ⟨0, 0, 1, 0, 0, 0, 0⟩⟩,
  ⟨[116], [49, 48, 48, 48], [48], true, ⟨0, 1, 0, 0, 0, 0, 0⟩⟩,
  ⟨[76], [49, 47, 49, 48, 48, 48], [48], true, ⟨3, 0, 0, 0, 0, 0, 0⟩⟩,
  ⟨[72, 122], [49], [48], true, ⟨0, 0, -1, 0, 0, 0, 0⟩⟩,
  ⟨[78], [49], [48], true, ⟨1, 1, -2, 0, 0, 0, 0⟩⟩,
  ⟨[80, 97], [49], [48], true, ⟨-1, 1, -2, 0, 0, 0, 0⟩⟩,
  ⟨[74], [49], [48], true, ⟨2, 1, -2, 0, 0, 0, 0⟩⟩,
  ⟨[87], [49], [48], true, ⟨2, 1, -3, 0, 0, 0, 0⟩⟩,
  ⟨[98, 97, 114], [49, 48, 48, 48, 48, 48], [48], true, ⟨-1, 1, -2, 0, 0, 0, 0⟩⟩,
  ⟨[100, 101, 103, 67], [49], [53, 52, 54, 51, 47, 50, 48], false, ⟨0, 0, 0, 1, 0, 0, 0⟩⟩,
  ⟨[100, 101, 103, 70], [53, 47, 57], [52, 53, 57, 54, 55, 47, 49, 56, 48], false, ⟨0, 0, 0, 1, 0, 0, 0⟩⟩]
def sfind (l : List UInt8) : Option Sy :=
  match syms.find? (fun s => s.name == l) with
  | some s => some s
  | none => if l.length < 2 then none else match pfx (l.headD 0) with
    | none => none
    | some b => (syms.find? (fun s => s.pre && s.name == l.tail)).map fun s => { s with fac := bin dMul s.fac b }
end Go.Proofs.YtnablanoaglioaaGreatDoor
namespace Go.Proofs.YtnablanoaglioaaGreatDoor
open Go.RowKit Go.Proofs.YtnablanoaglioaaGreatDoor.Dg Go.Proofs.YtnablanoaglioaaGreatDoor.Q Go.Proofs.YtnablanoaglioaaGreatDoor.Num

theorem sz_inv {a : Rat} (h : a ≠ 0) : sz (a⁻¹) ≤ sz a + 1 := by
  have := sz_div (a := 1) h
  rw [Rat.div_def, Rat.one_mul, sz_one] at this
  omega
theorem sz_zpow {a : Rat} (h0 : a ≠ 0) {B : Nat} (h : sz a ≤ B) (n : Int) : sz (a ^ n) ≤ n.natAbs * B + 2 := by
  rcases Int.natAbs_eq n with e | e
  · rw [e, Rat.zpow_natCast, Int.natAbs_natCast]
    have := sz_npow h n.natAbs
    omega
  · rw [e, Rat.zpow_neg, Rat.zpow_natCast, Int.natAbs_neg, Int.natAbs_natCast]
    have h1 := sz_npow h n.natAbs
    have h2 := sz_inv (npow_ne h0 n.natAbs)
    omega
def P7.plus (p : P7) (n : Int) (q : P7) : P7 := ⟨p.a + n * q.a, p.b + n * q.b, p.c + n * q.c, p.d + n * q.d, p.e + n * q.e, p.f + n * q.f, p.g + n * q.g⟩
theorem wi_iff {x : Int} : wi x = true ↔ -12 ≤ x ∧ x ≤ 12 := by unfold wi; simp
theorem unC_notK (F O : ByteArray) (p : P7) : (unC F O p).all (notK .u32) = true := by simp [unC, notK]
end Go.Proofs.YtnablanoaglioaaGreatDoor
namespace Go.Proofs.YtnablanoaglioaaGreatDoor
open Go.RowKit Dg Q Num Str

def pexp (l : List UInt8) : Option (Int × Nat) :=
  if cnt (body l) = 0 then none else
  let t := ((body l).take (cnt (body l))).dropWhile (· == 48)
  let n : Nat := if t.length ≤ 2 then val t else 1000
  some (if isNeg l = true then (-(n : Int), cnt (body l) + 1) else ((n : Int), cnt (body l)))
structure PF where
  s : Sy
  exp : Int
  bare : Bool
deriving DecidableEq
def PF.L (x : PF) : List Value := x.s.L ++ [.int .i64 x.exp, .bool x.bare]
def pstep (sg : Int) (l : List UInt8) : Option (PF × List UInt8) :=
  if 0 < numb l then match frm (l.take (numb l)) with
    | some q => if short q = true ∧ q ≠ 0 then some (⟨⟨[], txt q, [48], false, ⟨0, 0, 0, 0, 0, 0, 0⟩⟩, sg, decide (sg = 1)⟩, l.drop (numb l)) else none
    | none => none
  else match sfind (l.take (wrd l)) with
    | none => none
    | some y => if (l.drop (wrd l)).head? = some 94 then match pexp (l.drop (wrd l)).tail with
        | none => none
        | some (e, n) => some (⟨y, sg * e, false⟩, (l.drop (wrd l)).tail.drop n)
      else some (⟨y, sg, decide (sg = 1)⟩, l.drop (wrd l))
def pfac : Nat → Int → List PF → List UInt8 → Option (List PF)
  | 0, _, _, _ => none
  | k + 1, sg, acc, l => match pstep sg l with
    | none => none
    | some (x, []) => some (acc ++ [x])
    | some (x, c :: r) => if c = 32 then pfac k 1 (acc ++ [x]) r else if c = 47 then pfac k (-1) (acc ++ [x]) r else none
def pprod (xs : List PF) : Rat := xs.foldl (fun a x => a * ((num? x.s.fac).getD 0) ^ x.exp) 1
def psum (xs : List PF) : P7 := xs.foldl (fun a x => a.plus x.exp x.s.p) ⟨0, 0, 0, 0, 0, 0, 0⟩
def pof (xs : List PF) : Un × Int :=
  if xs.any (fun x => x.s.off != [48] && (decide (1 < xs.length) || !x.bare)) = true then (Un.none, 10)
  else if 12 < xs.length then (Un.none, 4)
  else if xs.all (fun x => wi x.exp) = true ∧ vU (put (pprod xs)) ((xs.head?.map (·.s.off)).getD []) (psum xs) = true then (⟨put (pprod xs), (xs.head?.map (·.s.off)).getD [], psum xs⟩, 0)
  else (Un.none, 4)
def punit (l : List UInt8) : Un × Int := if 1000 < l.length then (Un.none, 4) else match pfac (l.length + 1) 1 [] l with
  | none => (Un.none, 10)
  | some xs => pof xs
end Go.Proofs.YtnablanoaglioaaGreatDoor
namespace Go.Proofs.YtnablanoaglioaaGreatDoor
open Go.RowKit Dg Q Num Str

set_option maxRecDepth 100000 in
theorem letter_any (c : UInt8) (w : World) : Calls Tryz.prog 41 #[.int .u8 (c.toNat : Int)] w fun e w' => e = .returned (.bool (isLow c)) ∧ w = w' := by
  unfold isLow
  by_cases h1 : 97 ≤ c.toNat
  · by_cases h2 : c.toNat ≤ 122
    · have g1 : (97 : Int) ≤ (c.toNat : Int) := by omega
      have g2 : (c.toNat : Int) ≤ 122 := by omega
      rw [decide_eq_true (And.intro h1 h2)]
      clear h1 h2
      go_enter Tryz.func41, Tryz.ntmps41
      go_wp2
      go_ret
      exact ⟨rfl, rfl⟩
    · have g1 : (97 : Int) ≤ (c.toNat : Int) := by omega
      have g2 : ¬ (c.toNat : Int) ≤ 122 := by omega
      rw [decide_eq_false (fun h => h2 h.2)]
      clear h1 h2
      go_enter Tryz.func41, Tryz.ntmps41
      go_wp2
      go_ret
      exact ⟨rfl, rfl⟩
  · have g1 : ¬ (97 : Int) ≤ (c.toNat : Int) := by omega
    rw [decide_eq_false (fun h => h1 h.1)]
    clear h1
    go_enter Tryz.func41, Tryz.ntmps41
    go_wp2
    go_ret
    exact ⟨rfl, rfl⟩
theorem nameB_long {l : List UInt8} (h : 16 < l.length) : nameB l = false := by
  unfold nameB
  rw [decide_eq_false (by omega)]
  rfl
theorem nameB_head {c : UInt8} {l : List UInt8} (h : isLow c = false) : nameB (c :: l) = false := by
  unfold nameB
  rw [List.head?_cons, Option.any_some, h]
  simp
theorem nameB_at {l : List UInt8} {k : Nat} {c : UInt8} (hk : l[k]? = some c) (h : isNm c = false) : nameB l = false := by
  unfold nameB
  have : l.all isNm = false := by
    cases ha : l.all isNm
    · rfl
    · rw [List.all_eq_true.1 ha c (List.mem_of_getElem? hk)] at h; cases h
  rw [this]
  simp
theorem nameB_end {c : UInt8} {l : List UInt8} (h1 : (c :: l).length ≤ 16) (h2 : isLow c = true) (h3 : (c :: l).all isNm = true) : nameB (c :: l) = true := by
  unfold nameB
  rw [decide_eq_true h1, List.head?_cons, Option.any_some, h2, h3]
  rfl
theorem all_snoc {p : UInt8 → Bool} {l : List UInt8} {k : Nat} {c : UInt8} (h : (l.take k).all p = true) (hk : l[k]? = some c) (hc : p c = true) : (l.take (k + 1)).all p = true := by
  rw [List.take_add_one, hk, List.all_append, h]
  simp [hc]

set_option maxRecDepth 100000 in
set_option maxHeartbeats 3200000 in
theorem vname_any (S : ByteArray) (hs : S.size ≤ 9223372036854775807) (w : World) : Calls Tryz.prog 11 #[.string S] w fun e w' => e = .returned (.bool (nameB (bl S))) ∧ w = w' := by
  have sb : (S.size : Int) ≤ 9223372036854775807 := by omega
  have LT := fun c w' => letter_any c w'
  have hes : S.toList.isEmpty = decide (bl S = []) := emptyS S
  obtain ⟨X, hX⟩ : ∃ X, nameB (bl S) = X := ⟨_, rfl⟩
  rw [hX]
  cases hl : bl S with
  | nil =>
    rw [hl] at hes hX
    have hx : X = false := hX.symm
    subst hx
    rw [decide_eq_true rfl] at hes
    clear hX hl
    go_enter Tryz.func11, Tryz.ntmps11
    go_wp2
    go_ret
    exact ⟨rfl, rfl⟩
  | cons c0 l0 =>
    have hlen : S.size = l0.length + 1 := by rw [← bl_len, hl]; rfl
    have h0 : 0 < S.size := by omega
    have hi0 : (0 : Int) < (S.size : Int) := by omega
    have hc0 : S[0] = c0 := by
      have := bl_at S 0 h0
      rw [hl] at this
      injection this with this
      exact this.symm
    rw [hl, decide_eq_false (by simp)] at hes
    by_cases h16 : 16 < S.size
    · have g16 : (16 : Int) < (S.size : Int) := by omega
      rw [nameB_long (by rw [bl_len]; exact h16)] at hX
      subst hX
      clear hl hlen hc0 h16
      go_enter Tryz.func11, Tryz.ntmps11
      go_wp2
      go_ret
      exact ⟨rfl, rfl⟩
    have g16 : ¬ (16 : Int) < (S.size : Int) := by omega
    have L0 := fun w' => LT S[0] w'
    cases hlow : isLow S[0]
    · rw [hlow] at L0
      rw [hl, nameB_head (by rw [← hc0]; exact hlow)] at hX
      subst hX
      clear hl hlen hc0 h16 hlow LT
      go_enter Tryz.func11, Tryz.ntmps11
      go_wp2_with (go_at_call 41; go_loud ((with_reducible refine (L0 _).mono ?_); rintro e w1 ⟨rfl, rfl⟩))
      go_ret
      exact ⟨rfl, rfl⟩
    rw [hlow] at L0
    have HE := Lib.hid (show (bl S).all isNm = true → X = true from fun h => by
      rw [← hX, hl]
      rw [hl] at h
      exact nameB_end (by rw [← hl, bl_len]; omega) (by rw [← hc0]; exact hlow) h)
    have HA := Lib.hid (show ∀ k c, (bl S)[k]? = some c → isNm c = false → X = false from fun k c h1 h2 => by rw [← hX]; exact nameB_at h1 h2)
    clear hX hl hlen hc0 hlow h16
    go_enter Tryz.func11, Tryz.ntmps11
    go_wp2_with (go_at_call 41; go_loud ((with_reducible refine (L0 _).mono ?_); rintro e w1 ⟨rfl, rfl⟩))
    clear L0
    go_loopw [19] (fun i wr => ∃ k : Nat, k ≤ S.size ∧ i = .int .i64 (k : Int) ∧ w = wr ∧ Hid (((bl S).take k).all isNm = true)) (fun i _ => (S.size - intOf i).toNat)
    case atStart => exact ⟨0, Nat.zero_le _, rfl, rfl, Lib.hid rfl⟩
    case round =>
      obtain ⟨k, hk, rfl, rfl, hA⟩ := hrel
      by_cases hkn : k = S.size
      · subst hkn
        have hx := HE.out (by have := hA.out; rwa [List.take_of_length_le (by rw [bl_len]; exact Nat.le_refl _)] at this)
        subst hx
        clear hA HA HE
        go_wp2
        go_ret
        exact ⟨rfl, rfl⟩
      · have hlt : k < S.size := by omega
        have hi : (k : Int) < (S.size : Int) := by omega
        have hb := bl_at S k hlt
        have Lk := fun w' => LT S[k] w'
        have HN := Lib.hid (show isNm S[k] = true → ((bl S).take (k + 1)).all isNm = true from fun h => all_snoc hA.out hb h)
        have HF := Lib.hid (HA.out k S[k] hb)
        have e0 : isNm S[k] = (isLow S[k] || (S[k] == 95 || isD S[k])) := rfl
        cases hlow : isLow S[k]
        · rw [hlow] at Lk e0
          by_cases h95 : (S[k].toNat : Int) = 95
          · have HN2 := Lib.hid (HN.out (by rw [e0, (byte_eq S[k] 95).1 h95]; rfl))
            have L95 := fun w' => (show Calls Tryz.prog 41 #[.int .u8 95] w' fun e w2 => e = .returned (.bool false) ∧ w' = w2 from letter_any 95 w')
            clear HN HF e0 hlow hA hb Lk
            go_wp2_with (go_at_call 41; go_loud ((with_reducible refine (L95 _).mono ?_); rintro e w1 ⟨rfl, rfl⟩))
            go_roundw
            case rel => exact ⟨k + 1, by omega, by go_num, by first | rfl | trivial, HN2⟩
            case measure => simp only [intOf]; omega
          · have h95b : ((S[k].toNat : Int) == 95) = false := by rw [beq_eq_false_iff_ne]; exact h95
            have e1 : (S[k] == 95) = false := by rw [beq_eq_false_iff_ne]; exact fun h => h95 ((byte_eq S[k] 95).2 h)
            rw [e1] at e0
            by_cases h48 : (S[k].toNat : Int) < 48
            · have hx := HF.out (by rw [e0]; unfold isD; rw [decide_eq_false (by omega)]; rfl)
              subst hx
              clear HN HF e0 e1 hlow hA hb HE HA
              go_wp2_with (go_at_call 41; go_loud ((with_reducible refine (Lk _).mono ?_); rintro e w1 ⟨rfl, rfl⟩))
              go_ret
              exact ⟨rfl, rfl⟩
            · by_cases h57 : (57 : Int) < (S[k].toNat : Int)
              · have hx := HF.out (by rw [e0]; unfold isD; rw [decide_eq_false (by omega)]; rfl)
                subst hx
                clear HN HF e0 e1 hlow hA hb HE HA
                go_wp2_with (go_at_call 41; go_loud ((with_reducible refine (Lk _).mono ?_); rintro e w1 ⟨rfl, rfl⟩))
                go_ret
                exact ⟨rfl, rfl⟩
              · have HN2 := Lib.hid (HN.out (by rw [e0]; unfold isD; rw [decide_eq_true (by omega)]; rfl))
                clear HN HF e0 e1 hlow hA hb
                go_wp2_with (go_at_call 41; go_loud ((with_reducible refine (Lk _).mono ?_); rintro e w1 ⟨rfl, rfl⟩))
                go_roundw
                case rel => exact ⟨k + 1, by omega, by go_num, by first | rfl | trivial, HN2⟩
                case measure => simp only [intOf]; omega
        · rw [hlow] at Lk e0
          have HN2 := Lib.hid (HN.out (by rw [e0]; rfl))
          clear HN HF e0 hlow hA hb
          go_wp2_with (go_at_call 41; go_loud ((with_reducible refine (Lk _).mono ?_); rintro e w1 ⟨rfl, rfl⟩))
          go_roundw
          case rel => exact ⟨k + 1, by omega, by go_num, by first | rfl | trivial, HN2⟩
          case measure => simp only [intOf]; omega
end Go.Proofs.YtnablanoaglioaaGreatDoor
namespace Go.Proofs.YtnablanoaglioaaGreatDoor
open Go.RowKit Dg Q Num Str

theorem trimzero_any (S : ByteArray) (w : World) :
    Calls Tryz.prog 295 #[.string S, .string ⟨#[48]⟩] w fun e w' => e = .returned (.string ⟨((bl S).dropWhile (· == 48)).toArray⟩) ∧ Below w.heap.size w w' :=
  (Any.strings_TrimLeft_laid Tryz.lays161 Tryz.infoSetL S ⟨#[48]⟩ w (by decide) (ascii_of_all (by decide))).mono fun e w' ⟨h1, h2⟩ => ⟨by
    rw [h1, show (S.data.toList : List UInt8) = bl S from rfl, show (⟨#[48]⟩ : ByteArray).data.toList = [48] from rfl]
    have : Lib.trimLeftS (bl S) [48] = (bl S).dropWhile (· == 48) := by
      unfold Lib.trimLeftS
      congr 1
      funext c
      rw [Bool.eq_iff_iff]
      simp
    rw [this], h2⟩
theorem dropWhile_len {p : UInt8 → Bool} (l : List UInt8) : (l.dropWhile p).length ≤ l.length := by
  induction l with
  | nil => simp
  | cons a l ih => rw [List.dropWhile_cons]; split <;> simp; omega
theorem allD_dw {p : UInt8 → Bool} {l : List UInt8} (h : allD l = true) : allD (l.dropWhile p) = true := by
  unfold allD at *
  rw [List.all_eq_true] at *
  exact fun x hx => h x (List.dropWhile_subset _ hx)
theorem allD_tw (l : List UInt8) : allD (l.take (cnt l)) = true := by
  unfold allD cnt
  have : l.take (l.takeWhile isD).length = l.takeWhile isD := by
    have h := List.take_left (l₁ := l.takeWhile isD) (l₂ := l.dropWhile isD)
    rw [List.takeWhile_append_dropWhile] at h
    exact h
  rw [this]
  exact List.all_takeWhile

def expV (o : Option (Int × Nat)) : Value := match o with
  | some (n, k) => .tuple #[.int .i64 n, .int .i64 (k : Int), .bool true]
  | none => .tuple #[.int .i64 0, .int .i64 0, .bool false]
set_option maxRecDepth 100000 in
set_option maxHeartbeats 6400000 in
theorem exponent_any (S : ByteArray) (hs : S.size ≤ 1000) (w : World) (hw : Wf w) : Calls Tryz.prog 255 #[.string S] w fun e w' => e = .returned (expV (pexp (bl S))) ∧ Below w.heap.size w w' := by
  have CN := fun w => cutneg_fixed S w
  have hRs : (body (bl S)).length ≤ 1000 := Nat.le_trans (body_len _) (by rw [bl_len]; exact hs)
  obtain ⟨X, hX⟩ : ∃ X, pexp (bl S) = X := ⟨_, rfl⟩
  rw [hX]
  unfold pexp at hX
  generalize isNeg (bl S) = neg at *
  obtain ⟨R, hR⟩ : ∃ R : ByteArray, (⟨(body (bl S)).toArray⟩ : ByteArray) = R := ⟨_, rfl⟩
  have hb : body (bl S) = bl R := by rw [← hR]; rfl
  rw [hR] at CN
  rw [hb] at hRs hX
  clear hb hR
  have hn := cnt_le (bl R)
  have T1 := fun w => trimleft_any R w
  have T2 := fun w => trimzero_any (R.extract 0 (cnt (bl R))) w
  have hcut : bl (R.extract 0 (cnt (bl R))) = (bl R).take (cnt (bl R)) := by rw [bl_cut]; simp
  rw [hcut] at T2
  have hZ : ((bl R).take (cnt (bl R))).dropWhile (· == 48) = ((bl R).take (cnt (bl R))).dropWhile (· == 48) := rfl
  have hZl := dropWhile_len (p := (· == 48)) ((bl R).take (cnt (bl R)))
  have hZd := allD_dw (p := (· == 48)) (allD_tw (bl R))
  rw [List.length_take] at hZl
  rw [bl_len] at hn hRs
  generalize ((bl R).take (cnt (bl R))).dropWhile (· == 48) = z at *
  generalize hc : cnt (bl R) = n at *
  clear hZ hc hcut
  obtain ⟨Z, hZ⟩ : ∃ Z : ByteArray, (⟨z.toArray⟩ : ByteArray) = Z := ⟨_, rfl⟩
  have hzb : z = bl Z := by rw [← hZ]; rfl
  rw [hZ] at T2
  dsimp only at hX
  rw [hzb] at hX hZl hZd
  rw [bl_len] at hX hZl
  clear hzb hZ
  have sb : (R.size : Int) ≤ 1000 := by omega
  have nb : (n : Int) ≤ (R.size : Int) := by omega
  have zb : (Z.size : Int) ≤ 1000 := by omega
  by_cases h0 : n = 0
  · rw [if_pos h0] at hX
    subst h0 hX
    clear T2 hZd hZl
    go_enter Tryz.func255, Tryz.ntmps255
    go_wp2_with (first
      | (go_at_call 42; go_loud (refine (CN _).mono ?_; rintro e w1 ⟨rfl, rfl⟩))
      | (go_at_call 295; go_loud (refine (T1 _).mono ?_; rintro e w1 ⟨T1, rfl, hT, hb⟩; have B1 := Lib.hid hb; clear hb)))
    go_ret3
    exact ⟨rfl, B1.out⟩
  rw [if_neg h0] at hX
  have hA := fun w hw => (atoi_any (⟨#[48]⟩ ++ Z) (by rw [ByteArray.size_append]; show 1 + _ ≤ _; omega) w hw)
  have h0' : ¬ (n : Int) = 0 := by omega
  have ext : ∀ T : ByteArray, (T.size : Int) = (R.size : Int) - (n : Int) → (R.size : Int) - (T.size : Int) = (n : Int) := fun T h => by omega
  by_cases h2 : Z.size ≤ 2
  · rw [if_pos h2] at hX
    have h2' : (Z.size : Int) ≤ 2 := by omega
    have hv : val (bl (⟨#[48]⟩ ++ Z)) = val (bl Z) := by
      rw [bl_app, show bl ⟨#[48]⟩ = [48] from rfl, val_append]
      show 0 * _ + _ = _
      omega
    have AT := fun w hw => (hA w hw).mono fun e w' (⟨v, ev, h1, _, _, h3, _, h4⟩ : AtoiQ _ _ _ _) => (show ∃ ev, e = Ending.returned (.tuple #[.int .i64 (val (bl Z) : Int), ev]) ∧ Below w.heap.size w w' from ⟨ev, by rw [h1, h3 (by rw [bl_app, allD_append, hZd]; rfl) (by rw [bl_app]; simp [show bl ⟨#[48]⟩ = [48] from rfl]) (by rw [ByteArray.size_append]; show 1 + _ ≤ _; omega), hv], h4⟩)
    have hval : val (bl Z) ≤ 99 := by
      have := val_lt (bl Z) hZd
      rw [bl_len] at this
      have h3 : (10 : Nat) ^ Z.size ≤ 10 ^ 2 := Nat.pow_le_pow_right (by decide) h2
      omega
    have hvb : (val (bl Z) : Int) ≤ 99 := by omega
    clear hA hv hZd hZl hval
    generalize val (bl Z) = v at *
    have HX := Lib.hid hX
    clear hX h0 h2
    cases neg
    all_goals
      go_enter Tryz.func255, Tryz.ntmps255
      go_wp2_with (first
        | (go_at_call 197; go_loud (refine (AT _ (hw.up B2.out)).mono ?_; rintro e w3 ⟨ev, rfl, hb⟩; have B3 := Lib.hid (btrans B2.out hb); clear hb))
        | (go_at_call 42; go_loud (refine (CN _).mono ?_; rintro e w1 ⟨rfl, rfl⟩))
        | (go_at_call 295; ((with_reducible refine (T1 _).mono ?_); rintro e w1 ⟨T3, rfl, hT, hb⟩; have B1 := Lib.hid hb; have e1 := ext _ hT; clear hb hT))
        | (go_at_call 295; ((with_reducible refine (T2 _).mono ?_); rintro e w2 ⟨rfl, hb⟩; have B2 := Lib.hid (btrans B1.out hb); clear hb)))
      go_ret3
      exact ⟨by rw [← HX.out]; rfl, B3.out⟩
  · rw [if_neg h2] at hX
    have h2' : ¬ (Z.size : Int) ≤ 2 := by omega
    have HX := Lib.hid hX
    clear hX h0 h2 hA hZd hZl
    cases neg
    all_goals
      go_enter Tryz.func255, Tryz.ntmps255
      go_wp2_with (first
        | (go_at_call 42; go_loud (refine (CN _).mono ?_; rintro e w1 ⟨rfl, rfl⟩))
        | (go_at_call 295; ((with_reducible refine (T1 _).mono ?_); rintro e w1 ⟨T3, rfl, hT, hb⟩; have B1 := Lib.hid hb; have e1 := ext _ hT; clear hb hT))
        | (go_at_call 295; ((with_reducible refine (T2 _).mono ?_); rintro e w2 ⟨rfl, hb⟩; have B2 := Lib.hid (btrans B1.out hb); clear hb)))
      go_ret3
      exact ⟨by rw [← HX.out]; rfl, B2.out⟩
end Go.Proofs.YtnablanoaglioaaGreatDoor
namespace Go.Proofs.YtnablanoaglioaaGreatDoor
open Go.RowKit Go.Proofs.YtnablanoaglioaaGreatDoor.Dg Go.Proofs.YtnablanoaglioaaGreatDoor.Q

theorem ownM_below {w w' : World} {base m n : Nat} {e : TypeId} {v : Value} {xs : List Value} (h : w.ownsRow base e m v n xs) (hb : Below w.heap.size w w') : w'.ownsRow base e m v n xs := by
  obtain ⟨h1, h2⟩ := h
  refine ⟨h1, ?_⟩
  rcases h2 with h2 | ⟨g, cap, cur, e1, e2, e3, e4⟩
  · exact .inl h2
  · have hg : g < w.heap.size := (Array.getElem?_eq_some_iff.1 e3).1
    exact .inr ⟨g, cap, cur, e1, e2, (hb.block g hg).trans e3, e4⟩
theorem grownM_below {w0 w w' : World} {n m : Nat} {e : TypeId} {v : Value} {xs : List Value} (h : w.ownsRow w0.heap.size e m v n xs) (hb : Below w0.heap.size w0 w) (hg : w.grownBy w' v.ownBlock) : Below w0.heap.size w0 w' := by
  refine ⟨hg.os.trans hb.os, hg.tape.trans hb.tape, hg.output.trans hb.output, Nat.le_trans hb.size hg.size, fun k hk => ?_⟩
  refine (hg.block k (Nat.lt_of_lt_of_le hk hb.size) (fun e1 => ?_)).trans (hb.block k hk)
  rcases h.2 with ⟨rfl, _⟩ | ⟨g, cap, cur, rfl, hge, _⟩
  · cases e1
  · have : k = g := by simpa [Value.ownBlock] using e1
    omega
theorem ownM_cell {w : World} {base m n g cap : Nat} {e : TypeId} {xs : List Value} (h : w.ownsRow base e m (.slice (some ⟨g, 0, none⟩) n cap) n xs) {j : Nat} {u : Value} (hj : xs[j]? = some u) : w.cell? ⟨g, j, none⟩ = some u := by
  have := h.cells (g := g) rfl j u hj
  rcases Nat.eq_zero_or_pos j with h0 | h0
  · subst h0; simpa [Addr.add] using this
  · have h1 : j ≠ 0 := by omega
    simpa [Addr.add, h1] using this
theorem ownM_form {w : World} {base m n : Nat} {e : TypeId} {v : Value} {xs : List Value} (h : w.ownsRow base e m v n xs) (hn : 0 < n) : ∃ g cap, v = .slice (some ⟨g, 0, none⟩) n cap ∧ g < w.heap.size ∧ base ≤ g ∧ n ≤ cap := by
  rcases h.2 with ⟨_, h0⟩ | ⟨g, cap, cur, e1, e2, e3, e4, _⟩
  · omega
  · exact ⟨g, cap, e1, (Array.getElem?_eq_some_iff.1 e3).1, e2, e4⟩
theorem Bk.put_mid {g : Nat} {t : TypeId} (l : List Value) : ∀ {w : World} (pre old post : List Value), Bk w g (pre ++ old ++ post).toArray t → old.length = l.length → Bk (putL w g pre.length l) g (pre ++ l ++ post).toArray t := by
  induction l with
  | nil => intro w pre old post h e; rw [List.length_eq_zero_iff.1 e] at h; exact h
  | cons v l ih =>
    intro w pre old post h e
    cases old with
    | nil => cases e
    | cons o old =>
      have h2 := h.set (i := pre.length) v
      have e2 : (pre ++ o :: old ++ post).toArray.setIfInBounds pre.length v = ((pre ++ [v]) ++ old ++ post).toArray := by
        rw [List.setIfInBounds_toArray]
        congr 1
        rw [List.append_assoc, List.set_append_right _ _ (Nat.le_refl _), Nat.sub_self, List.cons_append, List.set_cons_zero, List.append_assoc, List.append_assoc]
        rfl
      rw [e2] at h2
      have h3 := ih (pre ++ [v]) old post h2 (by simpa using e)
      have e3 : (pre ++ [v]) ++ l ++ post = pre ++ v :: l ++ post := by simp
      rw [e3, List.length_append] at h3
      exact h3
end Go.Proofs.YtnablanoaglioaaGreatDoor
namespace Go.Proofs.YtnablanoaglioaaGreatDoor
open Go.RowKit Go.Proofs.YtnablanoaglioaaGreatDoor.Q
theorem tNoP {Q : Exit → Act → World → Prop} {a : Act} {w : World} (h : Q .normal a w) : NoPanic Q .normal a w := h
theorem row3 {w : World} {h : Nat} {a b c : Value} (k : w.cell? ⟨h, 0, none⟩ = some a ∧ w.cell? ⟨h, 1, none⟩ = some b ∧ w.cell? ⟨h, 2, none⟩ = some c) : w.rangeAt h 0 [a, b, c] := by
  obtain ⟨k0, k1, k2⟩ := k
  intro j v hj
  rw [Nat.zero_add]
  match j, hj with
  | 0, hj => injection hj with hj; rw [← hj]; exact k0
  | 1, hj => injection hj with hj; rw [← hj]; exact k1
  | 2, hj => injection hj with hj; rw [← hj]; exact k2
theorem row4 {w : World} {h : Nat} {a0 a1 a2 a3 : Value} (k : w.cell? ⟨h, 0, none⟩ = some a0 ∧ w.cell? ⟨h, 1, none⟩ = some a1 ∧ w.cell? ⟨h, 2, none⟩ = some a2 ∧ w.cell? ⟨h, 3, none⟩ = some a3) : w.rangeAt h 0 [a0, a1, a2, a3] := by
  obtain ⟨k0, k1, k2, k3⟩ := k
  intro j v hj
  rw [Nat.zero_add]
  match j, hj with
  | 0, hj => injection hj with hj; rw [← hj]; exact k0
  | 1, hj => injection hj with hj; rw [← hj]; exact k1
  | 2, hj => injection hj with hj; rw [← hj]; exact k2
  | 3, hj => injection hj with hj; rw [← hj]; exact k3
theorem row8 {w : World} {h : Nat} {a0 a1 a2 a3 a4 a5 a6 a7 : Value} (k : w.cell? ⟨h, 0, none⟩ = some a0 ∧ w.cell? ⟨h, 1, none⟩ = some a1 ∧ w.cell? ⟨h, 2, none⟩ = some a2 ∧ w.cell? ⟨h, 3, none⟩ = some a3 ∧ w.cell? ⟨h, 4, none⟩ = some a4 ∧ w.cell? ⟨h, 5, none⟩ = some a5 ∧ w.cell? ⟨h, 6, none⟩ = some a6 ∧ w.cell? ⟨h, 7, none⟩ = some a7) : w.rangeAt h 0 [a0, a1, a2, a3, a4, a5, a6, a7] := by
  obtain ⟨k0, k1, k2, k3, k4, k5, k6, k7⟩ := k
  intro j v hj
  rw [Nat.zero_add]
  match j, hj with
  | 0, hj => injection hj with hj; rw [← hj]; exact k0
  | 1, hj => injection hj with hj; rw [← hj]; exact k1
  | 2, hj => injection hj with hj; rw [← hj]; exact k2
  | 3, hj => injection hj with hj; rw [← hj]; exact k3
  | 4, hj => injection hj with hj; rw [← hj]; exact k4
  | 5, hj => injection hj with hj; rw [← hj]; exact k5
  | 6, hj => injection hj with hj; rw [← hj]; exact k6
  | 7, hj => injection hj with hj; rw [← hj]; exact k7
theorem tCall {P : Program} {o : Oper} {a : Act} {w : World} {Q : Exit → Act → World → Prop} {K : Act → World → Prop} (f : FuncId) (args : Array Value) (hrun : (execOp a.eval o).run P w = .ok (.enter f args) w) {R : Ending → World → Prop} (hc : Calls P f args w R)
    (h : ∀ e w'', R e w'' → ∃ v, e = .returned v ∧ K (a.put o.dst v) w'') : o.wp P a w K Q := by
  unfold Oper.wp
  rw [hrun, Oper.upon_enter]
  refine hc.mono fun e w'' hh => ?_
  obtain ⟨v, rfl, hk⟩ := h e w'' hh
  exact hk
def tOk (md : Region.Mode) (ops : Array Oper) (listed : Array Bool) (i d : Nat) (a : Act) (want : Bool) : Bool :=
  Region.noSelect ops && (Region.free md ops listed i && ((Region.ready md ops listed).contains i && match ops[i]? with
    | some o => decide (o.dst = some d) && (Region.wanted o (yielded ops a.tmps) == want)
    | none => false))
theorem tOk_out {md : Region.Mode} {ops : Array Oper} {listed : Array Bool} {i d : Nat} {a : Act} {want : Bool} (h : tOk md ops listed i d a want = true) : Region.noSelect ops = true ∧ Region.free md ops listed i = true ∧ (Region.ready md ops listed).contains i = true ∧ ∃ o, ops[i]? = some o ∧ o.dst = some d ∧ Region.wanted o (yielded ops a.tmps) = want := by
  unfold tOk at h
  rw [Bool.and_eq_true, Bool.and_eq_true, Bool.and_eq_true] at h
  obtain ⟨h1, h2, h3, h4⟩ := h
  refine ⟨h1, h2, h3, ?_⟩
  cases ho : ops[i]? with
  | none => rw [ho] at h4; cases h4
  | some o =>
    rw [ho] at h4
    simp only [Bool.and_eq_true, decide_eq_true_eq, beq_iff_eq] at h4
    exact ⟨o, rfl, h4.1, h4.2⟩
theorem tNo {P : Program} {md : Region.Mode} {ops : Array Oper} {Q : Exit → Act → World → Prop} {S : World → Prop} {fuel : Nat} {listed : Array Bool} {a : Act} {w : World} (i d : Nat) (hS : S w) (hc : tOk md ops listed i d a false = true)
    (h : wpAnyH P md ops (NoPanic Q) S fuel (listed.setIfInBounds i true) (a.put (some d) undef) w) : wpAnyH P md ops (NoPanic Q) S (fuel + 1) listed a w := by
  obtain ⟨h1, h2, h3, o, ho, hd, hw⟩ := tOk_out hc
  rw [← hd] at h
  exact wpAnyH_take ho h1 h2 h3 (fun _ _ _ h => h) (Or.inr ⟨hw, rfl⟩) hS h
theorem tVal {P : Program} {md : Region.Mode} {ops : Array Oper} {Q : Exit → Act → World → Prop} {S : World → Prop} {fuel : Nat} {listed : Array Bool} {a : Act} {w : World} (i d : Nat) (v : Value) (hS : S w) (hc : tOk md ops listed i d a true = true)
    (hv : ∀ w', S w' → (ops[i]?.map fun o => (execOp a.eval o).run P w') = some (.ok (.value v) w'))
    (h : wpAnyH P md ops (NoPanic Q) S fuel (listed.setIfInBounds i true) (a.put (some d) v) w) : wpAnyH P md ops (NoPanic Q) S (fuel + 1) listed a w := by
  obtain ⟨h1, h2, h3, o, ho, hd, hw⟩ := tOk_out hc
  rw [← hd] at h
  refine wpAnyH_take ho h1 h2 h3 (fun _ _ _ h => h) (Or.inl ⟨hw, fun w' hw' => ?_⟩) hS h
  have := hv w' hw'
  rw [ho, Option.map_some, Option.some.injEq] at this
  exact this
theorem tLoad {P : Program} {md : Region.Mode} {ops : Array Oper} {Q : Exit → Act → World → Prop} {S : World → Prop} {fuel : Nat} {listed : Array Bool} {a : Act} {w : World} (i d : Nat) (ty : TypeId) (x : Operand) (b o : Nat) (cs : List Value) (hS : S w) (hc : tOk md ops listed i d a true = true)
    (ho : (ops[i]?.map fun o => o.op) = some (.load ty x)) (hx : a.eval x = .pointer (some ⟨b, o, none⟩)) (hr : ∀ w, S w → w.rangeAt b o cs) {ds : TypeDesc} (hu : P.underlying ty = some ds) (hd : ds.isRow = true) (hi : (P.info? ty).map (·.size) = some cs.length)
    (h : wpAnyH P md ops (NoPanic Q) S fuel (listed.setIfInBounds i true) (a.put (some d) (.agg cs.toArray)) w) : wpAnyH P md ops (NoPanic Q) S (fuel + 1) listed a w := by
  obtain ⟨h1, h2, h3, op, hop, hdd, hw⟩ := tOk_out hc
  rw [← hdd] at h
  rw [hop, Option.map_some, Option.some.injEq] at ho
  exact wpAnyH_take hop h1 h2 h3 (fun _ _ _ h => h) (yieldsIf_load_mid hw ty x ho b o hx cs ds hr hu hd hi) hS h
theorem tEnter {P : Program} {md : Region.Mode} {ops : Array Oper} {Q : Exit → Act → World → Prop} {S : World → Prop} {fuel : Nat} {listed : Array Bool} {a : Act} {w : World} (i d : Nat) (f : FuncId) (args : Array Value) (hr : Region.ready md ops listed = [i])
    (hc : (ops[i]?.map fun o => (o.dst, Region.wanted o (yielded ops a.tmps))) = some (some d, true)) (hrun : (ops[i]?.map fun o => (execOp a.eval o).run P w) = some (.ok (.enter f args) w)) {R : Ending → World → Prop} (hR : Calls P f args w R)
    (h : ∀ e w'', R e w'' → ∃ v, e = .returned v ∧ S w'' ∧ (S w'' → wpAnyH P md ops Q S fuel (listed.setIfInBounds i true) (a.put (some d) v) w'')) : wpAnyH P md ops Q S (fuel + 1) listed a w := by
  cases ho : ops[i]? with
  | none => rw [ho] at hc; cases hc
  | some o =>
    rw [ho, Option.map_some, Option.some.injEq] at hc hrun
    injection hc with hd hw
    refine wpAnyH_ready hr (by simp) (AllReadyH.cons ho (fun K hK => ?_) AllReadyH.nil)
    rw [if_pos hw]
    refine tCall f args hrun hR (fun e w'' hh => ?_)
    obtain ⟨v, he, hS, hW⟩ := h e w'' hh
    exact ⟨v, he, by rw [hd]; exact hK.out _ _ hS hW⟩
end Go.Proofs.YtnablanoaglioaaGreatDoor
namespace Go.Proofs.YtnablanoaglioaaGreatDoor
open Go.RowKit Dg Q Num Str

def P7.small (p : P7) : Prop := (-3 ≤ p.a ∧ p.a ≤ 3) ∧ (-3 ≤ p.b ∧ p.b ≤ 3) ∧ (-3 ≤ p.c ∧ p.c ≤ 3) ∧ (-3 ≤ p.d ∧ p.d ≤ 3) ∧ (-3 ≤ p.e ∧ p.e ≤ 3) ∧ (-3 ≤ p.f ∧ p.f ≤ 3) ∧ (-3 ≤ p.g ∧ p.g ≤ 3)
def Sy.good (y : Sy) : Prop := (∃ f, num? y.fac = some f ∧ 0 < f) ∧ (∃ o, num? y.off = some o) ∧ y.p.small
def numPos (l : List UInt8) : Bool := match num? l with
  | some f => decide (0 < f)
  | none => false
theorem numPos_iff {l : List UInt8} (h : numPos l = true) : ∃ f, num? l = some f ∧ 0 < f := by
  unfold numPos at h
  cases hn : num? l with
  | none => rw [hn] at h; cases h
  | some f => rw [hn] at h; exact ⟨f, rfl, of_decide_eq_true h⟩
def prefs : List (List UInt8) := [[49, 47, 49, 48, 48, 48, 48, 48, 48, 48, 48, 48], [49, 47, 49, 48, 48, 48, 48, 48, 48], [49, 47, 49, 48, 48, 48], [49, 47, 49, 48, 48], [49, 47, 49, 48], [49, 48, 48], [49, 48, 48, 48], [49, 48, 48, 48, 48, 48, 48], [49, 48, 48, 48, 48, 48, 48, 48, 48, 48]]
theorem pfx_mem {c : UInt8} {b : List UInt8} (h : pfx c = some b) : b ∈ prefs := by
  unfold pfx at h
  repeat' split at h
  all_goals (cases h; try decide)
theorem syms_num : ∀ s ∈ syms, numPos s.fac = true := by decide +kernel
theorem syms_off : ∀ s ∈ syms, (num? s.off).isSome = true := by decide +kernel
theorem syms_pow : ∀ s ∈ syms, (-3 ≤ s.p.a ∧ s.p.a ≤ 3) ∧ (-3 ≤ s.p.b ∧ s.p.b ≤ 3) ∧ (-3 ≤ s.p.c ∧ s.p.c ≤ 3) ∧ (-3 ≤ s.p.d ∧ s.p.d ≤ 3) ∧ (-3 ≤ s.p.e ∧ s.p.e ≤ 3) ∧ (-3 ≤ s.p.f ∧ s.p.f ≤ 3) ∧ (-3 ≤ s.p.g ∧ s.p.g ≤ 3) := by decide +kernel
theorem syms_pre : ∀ s ∈ syms, ∀ b ∈ prefs, numPos (bin dMul s.fac b) = true := by decide +kernel
theorem find_mem {α : Type} {p : α → Bool} {l : List α} {s : α} (h : l.find? p = some s) : s ∈ l := List.mem_of_find?_eq_some h
theorem sfind_good {l : List UInt8} {y : Sy} (h : sfind l = some y) : y.good := by
  unfold sfind at h
  cases h1 : syms.find? (fun s => s.name == l) with
  | some s =>
    rw [h1] at h
    injection h with h
    subst h
    have hm := find_mem h1
    exact ⟨numPos_iff (syms_num _ hm), Option.isSome_iff_exists.1 (syms_off _ hm), syms_pow _ hm⟩
  | none =>
    rw [h1] at h
    dsimp only at h
    split at h
    · cases h
    · cases h2 : pfx (l.headD 0) with
      | none => rw [h2] at h; cases h
      | some b =>
        rw [h2] at h
        dsimp only at h
        cases h3 : syms.find? (fun s => s.pre && s.name == l.tail) with
        | none => rw [h3] at h; cases h
        | some s =>
          rw [h3] at h
          injection h with h
          subst h
          have hm := find_mem h3
          exact ⟨numPos_iff (syms_pre s hm _ (pfx_mem h2)), Option.isSome_iff_exists.1 (syms_off s hm), syms_pow s hm⟩
theorem cnt_head {l : List UInt8} (h : 0 < cnt l) : ∃ c r, l = c :: r ∧ isD c = true := by
  cases l with
  | nil => exact absurd h (by decide)
  | cons c r =>
    refine ⟨c, r, rfl, ?_⟩
    cases hc : isD c
    · unfold cnt at h
      rw [List.takeWhile_cons, hc] at h
      simp at h
    · rfl
theorem numb_pos {l : List UInt8} (h : 0 < numb l) : 0 < cnt l := by
  unfold numb at h
  split at h
  · rename_i h1; exact h1.1
  · exact h
theorem frm_pos {l : List UInt8} {q : Rat} (hn : isNeg l = false) (h : frm l = some q) : 0 ≤ q := by
  have key : ∀ n d : Nat, (0 : Rat) ≤ mkRat (sg false n) d := fun n d => by
    have h0 : ngt (mkRat (sg false n) d) = false := by
      rcases Nat.eq_zero_or_pos d with h0 | h0
      · subst h0; rw [Rat.mkRat_zero]; rfl
      · rcases Nat.eq_zero_or_pos n with h1 | h1
        · subst h1; rw [make_zero]; rfl
        · exact make_ngt (by omega) (by omega)
    refine Rat.not_lt.1 (fun h => ?_)
    rw [Rat.lt_iff] at h
    unfold ngt at h0
    have h2 := of_decide_eq_false h0
    simp at h
    exact h2 h
  unfold frm at h
  rw [hn] at h
  split at h
  · cases h
  · split at h
    · injection h with h; rw [← h]; exact key _ _
    · split at h
      · cases h
      · split at h
        · injection h with h; rw [← h]; exact key _ _
        · split at h
          · split at h
            · cases h
            · injection h with h; rw [← h]; exact key _ _
          · cases h
theorem num_zero : num? [48] = some 0 := by decide +kernel
theorem zero_small : P7.small ⟨0, 0, 0, 0, 0, 0, 0⟩ := by unfold P7.small; decide
theorem pstep_good {sg : Int} {l r : List UInt8} {x : PF} (h : pstep sg l = some (x, r)) : x.s.good := by
  unfold pstep at h
  split at h
  · rename_i hn
    cases hf : frm (l.take (numb l)) with
    | none => rw [hf] at h; cases h
    | some q =>
      rw [hf] at h
      dsimp only at h
      split at h
      · rename_i hq
        injection h with h
        injection h with h _
        subst h
        have hneg : isNeg (l.take (numb l)) = false := by
          obtain ⟨c, r, rfl, hc⟩ := cnt_head (numb_pos hn)
          obtain ⟨n, hn'⟩ : ∃ n, numb (c :: r) = n + 1 := ⟨numb (c :: r) - 1, by omega⟩
          rw [hn', List.take_succ_cons]
          unfold isNeg
          cases h45 : (c == 45)
          · simp at h45
            simpa using h45
          · simp at h45
            subst h45
            cases hc
        have h0 := frm_pos hneg hf
        refine ⟨⟨q, num_iff.2 ⟨rfl, hq.1⟩, ?_⟩, ⟨0, num_zero⟩, zero_small⟩
        rcases Rat.le_iff_lt_or_eq.1 h0 with h1 | h1
        · exact h1
        · exact absurd h1.symm hq.2
      · cases h
  · cases hf : sfind (l.take (wrd l)) with
    | none => rw [hf] at h; cases h
    | some y =>
      rw [hf] at h
      dsimp only at h
      have hy := sfind_good hf
      split at h
      · cases hp : pexp (l.drop (wrd l)).tail with
        | none => rw [hp] at h; cases h
        | some en =>
          rw [hp] at h
          injection h with h
          injection h with h _
          subst h
          exact hy
      · injection h with h
        injection h with h _
        subst h
        exact hy
theorem pfac_good : ∀ {k : Nat} {sg : Int} {acc : List PF} {l : List UInt8} {xs : List PF}, (∀ x ∈ acc, x.s.good) → pfac k sg acc l = some xs → (∀ x ∈ xs, x.s.good) ∧ xs ≠ []
  | 0, _, _, _, _, _, h => by cases h
  | k + 1, sg, acc, l, xs, ha, h => by
    rw [pfac] at h
    cases hp : pstep sg l with
    | none => rw [hp] at h; cases h
    | some xr =>
      obtain ⟨x, r⟩ := xr
      rw [hp] at h
      have hg := pstep_good hp
      have ha2 : ∀ y ∈ acc ++ [x], y.s.good := fun y hy => by
        rcases List.mem_append.1 hy with hy | hy
        · exact ha y hy
        · rw [List.mem_singleton.1 hy]; exact hg
      cases r with
      | nil =>
        injection h with h
        subst h
        exact ⟨ha2, by simp⟩
      | cons c r =>
        dsimp only at h
        split at h
        · exact pfac_good ha2 h
        · split at h
          · exact pfac_good ha2 h
          · cases h
end Go.Proofs.YtnablanoaglioaaGreatDoor
namespace Go.Proofs.YtnablanoaglioaaGreatDoor
open Go.RowKit Dg Q Num Str

theorem pprod_succ {xs : List PF} {k : Nat} {x : PF} {f : Rat} (h : xs[k]? = some x) (hf : num? x.s.fac = some f) : pprod (xs.take (k + 1)) = pprod (xs.take k) * f ^ x.exp := by
  unfold pprod
  rw [List.take_add_one, h, List.foldl_append]
  show _ * ((num? x.s.fac).getD 0) ^ x.exp = _
  rw [hf]
  rfl
theorem psum_succ {xs : List PF} {k : Nat} {x : PF} (h : xs[k]? = some x) : psum (xs.take (k + 1)) = (psum (xs.take k)).plus x.exp x.s.p := by
  unfold psum
  rw [List.take_add_one, h, List.foldl_append]
  rfl
theorem pof_long {xs : List PF} (hA : xs.any (fun x => x.s.off != [48] && (decide (1 < xs.length) || !x.bare)) = false) (h : 12 < xs.length) : pof xs = (Un.none, 4) := by
  unfold pof
  rw [if_neg (by rw [hA]; decide), if_pos h]
theorem pof_exp {xs : List PF} {k : Nat} {x : PF} (hA : xs.any (fun x => x.s.off != [48] && (decide (1 < xs.length) || !x.bare)) = false) (h : ¬ 12 < xs.length) (hx : xs[k]? = some x) (he : wi x.exp = false) : pof xs = (Un.none, 4) := by
  unfold pof
  rw [if_neg (by rw [hA]; decide), if_neg h, if_neg]
  rintro ⟨h1, _⟩
  have := List.all_eq_true.1 h1 x (List.mem_of_getElem? hx)
  rw [he] at this
  cases this
theorem pof_end {xs : List PF} {x0 : PF} (hA : xs.any (fun x => x.s.off != [48] && (decide (1 < xs.length) || !x.bare)) = false) (h : ¬ 12 < xs.length) (he : ∀ x ∈ xs, wi x.exp = true) (h0 : xs[0]? = some x0) :
    pof xs = if vU (put (pprod xs)) x0.s.off (psum xs) = true then (⟨put (pprod xs), x0.s.off, psum xs⟩, 0) else (Un.none, 4) := by
  have hh : (xs.head?.map (·.s.off)).getD [] = x0.s.off := by
    cases xs with
    | nil => cases h0
    | cons y l => injection h0 with h0; rw [← h0]; rfl
  unfold pof
  rw [if_neg (by rw [hA]; decide), if_neg h, hh]
  by_cases hv : vU (put (pprod xs)) x0.s.off (psum xs) = true
  · rw [if_pos ⟨List.all_eq_true.2 he, hv⟩, if_pos hv]
  · rw [if_neg (fun h => hv h.2), if_neg hv]
def P7.le (p : P7) (B : Int) : Prop := (-B ≤ p.a ∧ p.a ≤ B) ∧ (-B ≤ p.b ∧ p.b ≤ B) ∧ (-B ≤ p.c ∧ p.c ≤ B) ∧ (-B ≤ p.d ∧ p.d ≤ B) ∧ (-B ≤ p.e ∧ p.e ≤ B) ∧ (-B ≤ p.f ∧ p.f ≤ B) ∧ (-B ≤ p.g ∧ p.g ≤ B)
theorem mul_36 {n x : Int} (hn : -12 ≤ n ∧ n ≤ 12) (hx : -3 ≤ x ∧ x ≤ 3) : -36 ≤ n * x ∧ n * x ≤ 36 := by
  obtain ⟨a, b⟩ := hn
  obtain ⟨c, d⟩ := hx
  rcases (show x = -3 ∨ x = -2 ∨ x = -1 ∨ x = 0 ∨ x = 1 ∨ x = 2 ∨ x = 3 by omega) with h | h | h | h | h | h | h <;> subst h <;> omega
theorem P7.le_plus {p q : P7} {n B : Int} (h : p.le B) (hn : -12 ≤ n ∧ n ≤ 12) (hq : q.small) : (p.plus n q).le (B + 36) := by
  obtain ⟨⟨a0, a1⟩, ⟨b0, b1⟩, ⟨c0, c1⟩, ⟨d0, d1⟩, ⟨e0, e1⟩, ⟨f0, f1⟩, ⟨g0, g1⟩⟩ := h
  obtain ⟨ha, hb, hc, hd, he, hf, hg⟩ := hq
  have h1 := mul_36 hn ha
  have h2 := mul_36 hn hb
  have h3 := mul_36 hn hc
  have h4 := mul_36 hn hd
  have h5 := mul_36 hn he
  have h6 := mul_36 hn hf
  have h7 := mul_36 hn hg
  unfold P7.le P7.plus
  dsimp only
  refine ⟨⟨?_, ?_⟩, ⟨?_, ?_⟩, ⟨?_, ?_⟩, ⟨?_, ?_⟩, ⟨?_, ?_⟩, ⟨?_, ?_⟩, ⟨?_, ?_⟩⟩ <;> omega
theorem psum_le {xs : List PF} (hg : ∀ x ∈ xs, x.s.good) : ∀ {k : Nat}, k ≤ xs.length → (∀ x ∈ xs.take k, wi x.exp = true) → (psum (xs.take k)).le (36 * k)
  | 0, _, _ => by
    rw [List.take_zero]
    refine ⟨⟨?_, ?_⟩, ⟨?_, ?_⟩, ⟨?_, ?_⟩, ⟨?_, ?_⟩, ⟨?_, ?_⟩, ⟨?_, ?_⟩, ⟨?_, ?_⟩⟩ <;> decide
  | k + 1, hk, he => by
    obtain ⟨x, hx⟩ : ∃ x, xs[k]? = some x := ⟨_, List.getElem?_eq_getElem (by omega)⟩
    have h1 := psum_le hg (k := k) (by omega) (fun y hy => he y (by rw [List.take_add_one]; exact List.mem_append_left _ hy))
    rw [psum_succ hx]
    have h2 := P7.le_plus h1 (wi_iff.1 (he x (by rw [List.take_add_one, hx]; simp))) (hg x (List.mem_of_getElem? hx)).2.2
    rw [show (36 : Int) * ((k + 1 : Nat) : Int) = 36 * (k : Int) + 36 by omega]
    exact h2
theorem pprod_sz {xs : List PF} (hg : ∀ x ∈ xs, x.s.good) : ∀ {k : Nat}, k ≤ xs.length → (∀ x ∈ xs.take k, wi x.exp = true) → sz (pprod (xs.take k)) ≤ 1 + 62 * k
  | 0, _, _ => by
    rw [List.take_zero]
    show sz (1 : Rat) ≤ _
    rw [sz_one]
    omega
  | k + 1, hk, he => by
    obtain ⟨x, hx⟩ : ∃ x, xs[k]? = some x := ⟨_, List.getElem?_eq_getElem (by omega)⟩
    have h1 := pprod_sz hg (k := k) (by omega) (fun y hy => he y (by rw [List.take_add_one]; exact List.mem_append_left _ hy))
    obtain ⟨⟨f, hf, f0⟩, _, _⟩ := hg x (List.mem_of_getElem? hx)
    have hw := wi_iff.1 (he x (by rw [List.take_add_one, hx]; simp))
    have h2 := sz_zpow (Rat.ne_of_gt f0) (num_sz hf) x.exp
    have h3 := sz_mul (pprod (xs.take k)) (f ^ x.exp)
    rw [pprod_succ hx hf]
    have h4 : x.exp.natAbs ≤ 12 := by omega
    have h5 : x.exp.natAbs * 5 ≤ 60 := by omega
    omega
def wis (xs : List PF) (k : Nat) : Prop := ∀ x ∈ xs.take k, wi x.exp = true
theorem wis_zero (xs : List PF) : wis xs 0 := fun x hx => by simp at hx
theorem wis_succ {xs : List PF} {k : Nat} {x : PF} (h : wis xs k) (hx : xs[k]? = some x) (he : wi x.exp = true) : wis xs (k + 1) := fun y hy => by
  rw [List.take_add_one, hx] at hy
  rcases List.mem_append.1 hy with hy | hy
  · exact h y hy
  · simp at hy
    rw [hy]
    exact he
end Go.Proofs.YtnablanoaglioaaGreatDoor
namespace Go.Proofs.YtnablanoaglioaaGreatDoor
open Go.RowKit Go.Proofs.YtnablanoaglioaaGreatDoor.Dg Go.Proofs.YtnablanoaglioaaGreatDoor.Q

end Go.Proofs.YtnablanoaglioaaGreatDoor
namespace Go.Proofs.YtnablanoaglioaaGreatDoor
open Go.RowKit Dg Q Num Str

end Go.Proofs.YtnablanoaglioaaGreatDoor
namespace Go.Proofs.YtnablanoaglioaaGreatDoor
open Go.RowKit Go.Proofs.YtnablanoaglioaaGreatDoor.Dg Go.Proofs.YtnablanoaglioaaGreatDoor.Q

end Go.Proofs.YtnablanoaglioaaGreatDoor
namespace Go.Proofs.YtnablanoaglioaaGreatDoor
open Go.RowKit Go.Proofs.YtnablanoaglioaaGreatDoor.Dg Go.Proofs.YtnablanoaglioaaGreatDoor.Q

end Go.Proofs.YtnablanoaglioaaGreatDoor
namespace Go.Proofs.YtnablanoaglioaaGreatDoor
open Go.RowKit Dg Q Num Str
open Go.Lib (decDigits)

end Go.Proofs.YtnablanoaglioaaGreatDoor
namespace Go.Proofs.YtnablanoaglioaaGreatDoor
open Go.RowKit Go.Proofs.YtnablanoaglioaaGreatDoor.Dg Go.Proofs.YtnablanoaglioaaGreatDoor.Q Go.Proofs.YtnablanoaglioaaGreatDoor.Num

end Go.Proofs.YtnablanoaglioaaGreatDoor
namespace Go.Proofs.YtnablanoaglioaaGreatDoor
open Go.RowKit Go.Proofs.YtnablanoaglioaaGreatDoor.Q

section
variable {P : Program} {md : Region.Mode} {ops : Array Oper} {Q : Exit → Act → World → Prop} {S : World → Prop} {fuel : Nat} {listed : Array Bool} {a : Act} {w : World}
theorem tDo (i d : Nat) (v : Value) (w' : World) (hr : Region.ready md ops listed = [i]) (hc : (ops[i]?.map fun o => (o.dst, Region.wanted o (yielded ops a.tmps))) = some (some d, true))
    (hrun : (ops[i]?.map fun o => (execOp a.eval o).run P w) = some (.ok (.value v) w')) (hS : S w') (h : S w' → wpAnyH P md ops Q S fuel (listed.setIfInBounds i true) (a.put (some d) v) w') : wpAnyH P md ops Q S (fuel + 1) listed a w := by
  cases ho : ops[i]? with
  | none => rw [ho] at hc; cases hc
  | some o =>
    rw [ho, Option.map_some, Option.some.injEq] at hc hrun
    injection hc with hd hw
    refine wpAnyH_ready hr (by simp) (AllReadyH.cons ho (fun K hK => ?_) AllReadyH.nil)
    rw [if_pos hw]
    unfold Oper.wp
    rw [hrun, Oper.upon_value, hd]
    exact hK.out _ _ hS h
theorem tStore (i : Nat) (w' : World) (hr : Region.ready md ops listed = [i]) (hc : (ops[i]?.map fun o => (o.dst, Region.wanted o (yielded ops a.tmps))) = some (none, true))
    (hrun : (ops[i]?.map fun o => (execOp a.eval o).run P w) = some (.ok .skip w')) (hS : S w') (h : S w' → wpAnyH P md ops Q S fuel (listed.setIfInBounds i true) a w') : wpAnyH P md ops Q S (fuel + 1) listed a w := by
  cases ho : ops[i]? with
  | none => rw [ho] at hc; cases hc
  | some o =>
    rw [ho, Option.map_some, Option.some.injEq] at hc hrun
    injection hc with hd hw
    refine wpAnyH_ready hr (by simp) (AllReadyH.cons ho (fun K hK => ?_) AllReadyH.nil)
    rw [if_pos hw]
    unfold Oper.wp
    rw [hrun, Oper.upon_skip, hd]
    exact hK.out _ _ hS h
theorem tOp (i d : Nat) (o : Oper) (hr : Region.ready md ops listed = [i]) (ho : ops[i]? = some o) (hd : o.dst = some d) (hw : Region.wanted o (yielded ops a.tmps) = true)
    (h : ∀ K : Act → World → Prop, (∀ v w'', S w'' → (S w'' → wpAnyH P md ops Q S fuel (listed.setIfInBounds i true) (a.put (some d) v) w'') → K (a.put o.dst v) w'') → Oper.wp P o a w K Q) : wpAnyH P md ops Q S (fuel + 1) listed a w := by
  refine wpAnyH_ready hr (by simp) (AllReadyH.cons ho (fun K hK => ?_) AllReadyH.nil)
  rw [if_pos hw]
  refine h K (fun v w'' hS hW => ?_)
  rw [hd]
  exact hK.out _ _ hS hW
end
end Go.Proofs.YtnablanoaglioaaGreatDoor
