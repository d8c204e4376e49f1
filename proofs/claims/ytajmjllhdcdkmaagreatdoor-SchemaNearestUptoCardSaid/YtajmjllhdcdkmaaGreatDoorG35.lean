import Derived.Test.YtajmjllhdcdkmaaGreatDoorG9
import Derived.ProofKit
import Derived.Lib.SmallJoins
import Derived.Lib.LaidIn
import Derived.Lib.LaidTab
import Derived.Lib.LaidU8
import Derived.OpenShut
namespace Go.Proofs.YtajmjllhdcdkmaaGreatDoor
open Go.RowKit Go.ChangeShapes Go.WideShapes Go.ChangeAt Go.Joins
section
variable {H:Type} {enc:TypeId×Value->H} {P:Program}
theorem yff (hl:laidOutB P=true) {W W':World} {sp':Nat->Bool}:∀ {ts:List TypeId} {vs:List Value} {ds:List (DataW H)} {ps:List MemPlace},
  (∀ t ∈ ts,P.readableRec t=true/\t<P.types.size)->DataW.TrodAll enc P W 0 (fun _=>true) true ts vs ds ps->(∀ p ∈ ps,W.sameAt W' p)->(∀ p ∈ ps,sp' p.block=true)->DataW.TrodAll enc P W' 0 sp' true ts vs ds ps
 | [],[],[],_,_,h,_,_=>h
 | _::_,_::_,_::_,_,hT,⟨p,q,h1,h2,e⟩,hs,hp=>
  ⟨p,q,WideElems.Trod_stays hl (hT _ (List.mem_cons.2 (Or.inl rfl))).1 (hT _ (List.mem_cons.2 (Or.inl rfl))).2 h1 (fun x hx=>hs x (by rw[e];exact List.mem_append_left _ hx)) (fun x hx=>hp x (by rw[e];exact List.mem_append_left _ hx)),
   yff hl (fun t ht=>hT t (List.mem_cons.2 (Or.inr ht))) h2 (fun x hx=>hs x (by rw[e];exact List.mem_append_right _ hx)) (fun x hx=>hp x (by rw[e];exact List.mem_append_right _ hx)),e⟩
theorem ykf (hl:laidOutB P=true) {W W':World} {sp':Nat->Bool} {ts:List TypeId} {vs:List Value} {ds:List (DataW H)} {ps:List MemPlace}
  (hT:(ts.all fun t=>P.readableRec t&&decide (t<P.types.size))=true) (h:DataW.TrodAll enc P W 0 (fun _=>true) true ts vs ds ps) (hs:∀ p ∈ ps,W.sameAt W' p) (hp:∀ p ∈ ps,sp' p.block=true) :
  DataW.TrodAll enc P W' 0 sp' true ts vs ds ps:=
 yff hl (fun t ht=>by have:=List.all_eq_true.1 hT t ht;simpa using this) h hs hp
theorem yh5 {f:Func} {s:ChangeSpec} {apart fresh handsOn again:Bool} {W W':World} {args:Array Value} {v:Value} {ds gs:List (DataW H)} {before pa pv:List MemPlace}
  (hW:DataW.Whole enc P f.params.toList s.vars apart W args.toList ds gs before)
  (hres:∀ (b:Nat) (sp:Nat->Bool) (hd:Bool),DataW.TrodAll enc P W' b sp hd f.resultTypes.toList (v.resultList f.resultTypes.size) (s.fn H (ds++gs)).results [])
  (hargs:∀ sp:Nat->Bool,(∀ p ∈ before,sp p.block=true)->DataW.TrodAll enc P W' 0 sp true f.params.toList args.toList (s.fn H (ds++gs)).args pa)
  (hvars:∀ sp:Nat->Bool,(∀ p ∈ before,sp p.block=true)->DataW.TrodVars enc P W' sp s.vars (s.fn H (ds++gs)).vars pv)
  (hps:before=pa++pv) (hb:Below W.heap.size W W')
  (hok:∀ (j:Nat) (t:TypeId) (r:Value),f.resultTypes[j]?=some t->(v.resultList f.resultTypes.size)[j]?=some r->Value.okWide P W' .any 0 t r) :
  s.post enc P f apart fresh handsOn again W args v W':=by
 have hlt:∀ p ∈ before,p.block<W.heap.size:=fun p hp=>hW.lt p hp
 have hold:∀ p ∈ before,(fun b=>decide (b<W.heap.size)) p.block=true:=fun p hp=>by simpa using hlt p hp
 refine⟨ds,gs,before,[],pa,pv,hW,hres _ _ _,hargs _ hold,hvars _ hold,World.keptBut_mono (fun p hp=>⟨hp,?_⟩) (hb.frame (· ∈ before)),fun _=>?_⟩
 ·rw[hps,List.mem_append] at hp
  exact Or.inr hp
 ·obtain⟨_,_,_,_,_,hz,hn⟩:=hW
  refine⟨hok,_,_,([]++pa)++pv,⟨[]++pa,pv,trodAll_append (hargs _ (fun _ _=>rfl)) (hres _ _ _),hvars _ (fun _ _=>rfl),rfl,?_,?_⟩,?_⟩
  ·intro b off hp
   have hin:MemPlace.cell b off ∈ before:=by rw[hps];simpa using hp
   rw[hb.frozen (hlt _ hin)]
   exact hz b off hin
  ·intro ha
   have:=hn ha
   rw[hps] at this
   simpa using this
  ·intro p hp _
   rw[hps]
   simpa using hp
end
theorem Tryz.own:ownKnob Tryz.prog.godebug=none:=by kernel_rfl
theorem Tryz.laidOut:laidOutB Tryz.prog=true:=by kernel_rfl
theorem yjr {P:Program} {W:World} {name:String} {k:IntKind} {zs:List Int} {g:Nat} {t e:TypeId} {n:Nat}
  (hg:P.globalNamed name=some g) (hty:(P.globals[g]?).map (·.type)=some t) (ht:P.underlying t=some (.array n e)) (he:P.underlying e=some (.int k)) (hce:P.cellsOf e=1) (hct:P.cellsOf t=n)
  (h:Lib.VarReads P W name (Lib.tabData k zs)):Lib.TabIs P W name k zs:=by
 obtain⟨g',t',cs,fuel,p,hg',ht',hvar,hd⟩:=h
 obtain rfl:=Option.some.inj (hg.symm.trans hg')
 obtain rfl:=Option.some.inj (hty.symm.trans ht')
 unfold Lib.TabIs
 rw[hvar,<- Lib.cells_of_tab ht he hce hct hd]
theorem Tryz.gPowType:(Tryz.prog.globals[5]?).map (·.type)=some 295:=by kernel_rfl
theorem Tryz.gSynType:(Tryz.prog.globals[3]?).map (·.type)=some 188:=by kernel_rfl
theorem Tryz.gRngType:(Tryz.prog.globals[4]?).map (·.type)=some 188:=by kernel_rfl
theorem Tryz.cellsPow:Tryz.prog.cellsOf 295=20:=by kernel_rfl
theorem Tryz.cellsU64:Tryz.prog.cellsOf 224=1:=by kernel_rfl
theorem yep {P:Program} {W:World} {name nm:String} {d:DataW Unit} {g:Nat} {t:TypeId} {m:Array (String×TypeId)}
  (hg:P.globalNamed name=some g) (hty:(P.globals[g]?).map (·.type)=some t) (ht:P.underlying t=some (.interface m)) (h:Lib.VarReads P W name (.iface nm d)):∃ tp p,W.var? P name=some #[.iface tp p]:=by
 obtain⟨g',t',cs,fuel,p,hg',ht',hvar,hd⟩:=h
 obtain rfl:=Option.some.inj (hg.symm.trans hg')
 obtain rfl:=Option.some.inj (hty.symm.trans ht')
 cases fuel with
 | zero=>simp[DataW.trod] at hd
 | succ k=>
  obtain⟨l⟩:=cs
  unfold DataW.trod at hd
  rw[ht] at hd
  match l,hd with
  | [.iface u v],_=>exact⟨u,v,hvar⟩
  | [.nilIface],hd=>simp at hd
end Go.Proofs.YtajmjllhdcdkmaaGreatDoor
