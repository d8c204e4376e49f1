/- The sanity check of the laws, and the last step of every law's row: a law that returns true and leaves all that was there meets its row. -/
import Derived.Test.YtnjjkcnokkhlkaaGreatDoorCalI
import Derived.ProofKit
import Derived.Lib.SmallJoins
namespace Go.Proofs.YtnjjkcnokkhlkaaGreatDoor
open Go.RowKit Go.ChangeShapes Go.WideShapes Go.ChangeAt Go.Joins

theorem first_date : Cal.Vld 1 1 1 1 := by unfold Cal.Vld; exact ⟨by decide, by decide, by decide, by decide, by decide, by decide, by decide, by have := Cal.mlen_bd 1 1 1; omega⟩
theorem first_num : Cal.num 1 1 1 1 = 366 := by decide
theorem numv_first : numv 1 1 1 1 = 366 ∧ dck 1 1 1 1 = 0 := by
  have hv : Cal.vld 1 1 1 1 = true := (Cal.vld_iff _ _ _ _).2 first_date
  have hd : dck 1 1 1 1 = 0 := by unfold dck; rw [hv]; decide
  exact ⟨by unfold numv; rw [hd, if_pos rfl]; exact first_num, hd⟩
theorem dv_first : dvY 1 366 = 1 ∧ dvM 1 366 = 1 ∧ dvD 1 366 = 1 ∧ dke 1 366 = 0 := by
  have h := Cal.num_has _ _ _ _ first_date
  have e := Cal.date_num _ _ _ _ first_date
  rw [first_num] at h e
  have hh : Cal.has 1 366 = true := (Cal.has_iff _ _).2 h
  have hd : dke 1 366 = 0 := by unfold dke; rw [hh]; decide
  obtain ⟨a, b, c⟩ := dv_yes hd
  exact ⟨by rw [a, e.1], by rw [b, e.2.1], by rw [c, e.2.2], hd⟩

set_option maxHeartbeats 800000 in
theorem sane_any (w : World) : Calls Tryz.prog 8 #[] w fun e w' => e = .returned (.bool true) ∧ Below w.heap.size w w' := by
  have C := fun w => Number_any 1 1 1 1 w
  have D := fun w => DateOf_any 1 366 w
  rw [numv_first.1, numv_first.2] at C
  rw [dv_first.1, dv_first.2.1, dv_first.2.2.1, dv_first.2.2.2] at D
  go_enter Tryz.func8, Tryz.ntmps8
  go_wp2_with (first | (go_at_call 20; refine (C _).mono ?_; rintro e w1 ⟨rfl, hb⟩) | (go_at_call 21; refine (D _).mono ?_; rintro e w2 ⟨rfl, hb2⟩))
  go_ret
  refine ⟨rfl, ?_⟩
  have hb' := hb.trans (hb2.mono hb.size)
  (repeat (first | exact Below.refl _ _ | assumption | refine below_drewN ?_ _ | refine Below.drew ?_ | refine btrans ?_ (by assumption) | refine below_alloc ?_ _ | refine Below.setCell ?_ (by simp <;> omega) _ | refine Below.alloc ?_ (by simp <;> omega) _ | refine Below.setCell ?_ (by simp) _ | refine Below.alloc ?_ (by simp) _))

section
variable {H : Type} {enc : TypeId × Value → H} {P : Program}
/-- All arguments read as they did, where nothing that was there has turned. -/
theorem trodAll_stays (hl : laidOutB P = true) {W W' : World} {sp' : Nat → Bool} : ∀ {ts : List TypeId} {vs : List Value} {ds : List (DataW H)} {ps : List MemPlace},
    (∀ t ∈ ts, P.readableRec t = true ∧ t < P.types.size) → DataW.TrodAll enc P W 0 (fun _ => true) true ts vs ds ps → (∀ p ∈ ps, W.sameAt W' p) → (∀ p ∈ ps, sp' p.block = true) → DataW.TrodAll enc P W' 0 sp' true ts vs ds ps
  | [], [], [], _, _, h, _, _ => h
  | _ :: _, _ :: _, _ :: _, _, hT, ⟨p, q, h1, h2, e⟩, hs, hp =>
    ⟨p, q, WideElems.Trod_stays hl (hT _ (List.mem_cons.2 (Or.inl rfl))).1 (hT _ (List.mem_cons.2 (Or.inl rfl))).2 h1 (fun x hx => hs x (by rw [e]; exact List.mem_append_left _ hx)) (fun x hx => hp x (by rw [e]; exact List.mem_append_left _ hx)),
      trodAll_stays hl (fun t ht => hT t (List.mem_cons.2 (Or.inr ht))) h2 (fun x hx => hs x (by rw [e]; exact List.mem_append_right _ hx)) (fun x hx => hp x (by rw [e]; exact List.mem_append_right _ hx)), e⟩

theorem trodAll_kept (hl : laidOutB P = true) {W W' : World} {sp' : Nat → Bool} {ts : List TypeId} {vs : List Value} {ds : List (DataW H)} {ps : List MemPlace}
    (hT : (ts.all fun t => P.readableRec t && decide (t < P.types.size)) = true) (h : DataW.TrodAll enc P W 0 (fun _ => true) true ts vs ds ps) (hs : ∀ p ∈ ps, W.sameAt W' p) (hp : ∀ p ∈ ps, sp' p.block = true) :
    DataW.TrodAll enc P W' 0 sp' true ts vs ds ps :=
  trodAll_stays hl (fun t ht => by have := List.all_eq_true.1 hT t ht; simpa using this) h hs hp

theorem post_of_below {f : Func} {s : ChangeSpec} {apart fresh handsOn again : Bool} {W W' : World} {args : Array Value} {v : Value} {ds gs : List (DataW H)} {before pa pv : List MemPlace}
    (hW : DataW.Whole enc P f.params.toList s.vars apart W args.toList ds gs before)
    (hres : ∀ (b : Nat) (sp : Nat → Bool) (hd : Bool), DataW.TrodAll enc P W' b sp hd f.resultTypes.toList (v.resultList f.resultTypes.size) (s.fn H (ds ++ gs)).results [])
    (hargs : ∀ sp : Nat → Bool, (∀ p ∈ before, sp p.block = true) → DataW.TrodAll enc P W' 0 sp true f.params.toList args.toList (s.fn H (ds ++ gs)).args pa)
    (hvars : ∀ sp : Nat → Bool, (∀ p ∈ before, sp p.block = true) → DataW.TrodVars enc P W' sp s.vars (s.fn H (ds ++ gs)).vars pv)
    (hps : before = pa ++ pv) (hb : Below W.heap.size W W')
    (hok : ∀ (j : Nat) (t : TypeId) (r : Value), f.resultTypes[j]? = some t → (v.resultList f.resultTypes.size)[j]? = some r → Value.okWide P W' .any 0 t r) :
    s.post enc P f apart fresh handsOn again W args v W' := by
  have hlt : ∀ p ∈ before, p.block < W.heap.size := fun p hp => hW.lt p hp
  have hold : ∀ p ∈ before, (fun b => decide (b < W.heap.size)) p.block = true := fun p hp => by simpa using hlt p hp
  refine ⟨ds, gs, before, [], pa, pv, hW, hres _ _ _, hargs _ hold, hvars _ hold, World.keptBut_mono (fun p hp => ⟨hp, ?_⟩) (hb.frame (· ∈ before)), fun _ => ?_⟩
  · rw [hps, List.mem_append] at hp
    exact Or.inr hp
  · obtain ⟨_, _, _, _, _, hz, hn⟩ := hW
    refine ⟨hok, _, _, ([] ++ pa) ++ pv, ⟨[] ++ pa, pv, trodAll_append (hargs _ (fun _ _ => rfl)) (hres _ _ _), hvars _ (fun _ _ => rfl), rfl, ?_, ?_⟩, ?_⟩
    · intro b off hp
      have hin : MemPlace.cell b off ∈ before := by rw [hps]; simpa using hp
      rw [hb.frozen (hlt _ hin)]
      exact hz b off hin
    · intro ha
      have := hn ha
      rw [hps] at this
      simpa using this
    · intro p hp _
      rw [hps]
      simpa using hp
end

theorem Tryz.own : ownKnob Tryz.prog.godebug = none := by kernel_rfl
theorem Tryz.laidOut : laidOutB Tryz.prog = true := by kernel_rfl

end Go.Proofs.YtnjjkcnokkhlkaaGreatDoor
