/- Lemmas of the library and of the model under short names. -/
import Derived.WalkKit
import Derived.Lib.Hide
import Derived.Deep.QuietTactic
import Derived.Deep.MidRow
namespace Go.Proofs.YtajmjllhdcdkmaaGreatDoor
open Go.RowKit
theorem zB {α : Type} (i : Nat) (a : α) (l : List α) : l.toArray.setIfInBounds i a = (l.set i a).toArray := List.setIfInBounds_toArray ..
theorem zC {α : Type} (x a : α) (l : List α) : (x :: l).set 0 a = a :: l := rfl
theorem zD {α : Type} (x a : α) (l : List α) (i : Nat) : (x :: l).set (i + 1) a = x :: l.set i a := rfl
theorem zE {α : Type} (l : List α) (i : Nat) : l.toArray[i]? = l[i]? := List.getElem?_toArray ..
theorem zF {α : Type} (x : α) (l : List α) (i : Nat) : (x :: l)[i + 1]? = l[i]? := List.getElem?_cons_succ
theorem zG {α : Type} (x : α) (l : List α) : (x :: l)[0]? = some x := List.getElem?_cons_zero
theorem zH {α β : Type} (x : α) (f : α → β) : (some x).map f = some (f x) := rfl
theorem zI {α : Type} (a b : α) : (some a = some b) = (a = b) := Option.some.injEq a b
theorem zh {p : Prop} (h : p) : Hid p := Lib.hid h
theorem zJ (n : Nat) (w : World) : Below n w w := Below.refl n w
theorem zL {n : Nat} {w w' : World} (h : Below n w w') : Below n w w'.drew := Below.drew h
theorem zO {n : Nat} {w w' : World} {p : Addr} (h : Below n w w') (hp : n ≤ p.block) (v : Value) : Below n w (w'.setCell p v) := Below.setCell h hp v
theorem zP {n : Nat} {w w' : World} (h : Below n w w') (hn : n ≤ w'.heap.size) (o : Obj) : Below n w (w'.alloc o) := Below.alloc h hn o
end Go.Proofs.YtajmjllhdcdkmaaGreatDoor
