import Derived.Test.YtajmjllhdcdkmaaGreatDoorG34
import Derived.Test.YtajmjllhdcdkmaaGreatDoorG32
import Derived.Test.YtajmjllhdcdkmaaGreatDoorG35
import Derived.Test.YtajmjllhdcdkmaaGreatDoorG36
import Derived.Test.YtajmjllhdcdkmaaGreatDoorRows
import Derived.ProofKit
import Derived.SevenTiedAt
import Derived.LaidByTextLater
import Derived.Deep.DeepHandedRow
import Derived.Lib.LaidIn
import Derived.Lib.LaidTab
import Derived.Lib.LaidU8
import Derived.Lib.SmallJoins
set_option maxRecDepth 1000000
set_option maxHeartbeats 12800000
namespace Go.Proofs.YtajmjllhdcdkmaaGreatDoor
open Go.RowKit Go.ChangeShapes Go.WideShapes Go.ChangeAt Go.Joins
noncomputable def laidWorld (os:Os):World:=
 let N:=(World.settled Tryz.prog os).heap.size
 let w0:=World.holding Tryz.prog os ⟨#[.cells #[.string ⟨#[118,97,108,117,101,32,111,117,116,32,111,102,32,114,97,110,103,101]⟩] 293,.cells #[.string ⟨#[105,110,118,97,108,105,100,32,115,121,110,116,97,120]⟩] 293],#[],[]⟩
 let put (h:Array Obj) (g:Nat) (cs:Array Value):Array Obj:=h.modify g fun
  | .cells _ t frozen=>.cells cs t frozen
  | o=>o
 let h1:=put w0.heap 6 #[.int .u8 0,.int .u8 1,.int .u8 28,.int .u8 2,.int .u8 29,.int .u8 14,.int .u8 24,.int .u8 3,.int .u8 30,.int .u8 22,.int .u8 20,.int .u8 15,.int .u8 25,.int .u8 17,.int .u8 4,.int .u8 8,.int .u8 31,.int .u8 27,.int .u8 13,.int .u8 23,.int .u8 21,.int .u8 19,.int .u8 16,.int .u8 7,.int .u8 26,.int .u8 12,.int .u8 18,.int .u8 6,.int .u8 11,.int .u8 5,.int .u8 10,.int .u8 9]
 let h2:=put h1 7 #[.int .u8 0,.int .u8 1,.int .u8 56,.int .u8 2,.int .u8 57,.int .u8 49,.int .u8 28,.int .u8 3,.int .u8 61,.int .u8 58,.int .u8 42,.int .u8 50,.int .u8 38,.int .u8 29,.int .u8 17,.int .u8 4,.int .u8 62,.int .u8 47,.int .u8 59,.int .u8 36,.int .u8 45,.int .u8 43,.int .u8 51,.int .u8 22,.int .u8 53,.int .u8 39,.int .u8 33,.int .u8 30,.int .u8 24,.int .u8 18,.int .u8 12,.int .u8 5,.int .u8 63,.int .u8 55,.int .u8 48,.int .u8 27,.int .u8 60,.int .u8 41,.int .u8 37,.int .u8 16,.int .u8 46,.int .u8 35,.int .u8 44,.int .u8 21,.int .u8 52,.int .u8 32,.int .u8 23,.int .u8 11,.int .u8 54,.int .u8 26,.int .u8 40,.int .u8 15,.int .u8 34,.int .u8 20,.int .u8 31,.int .u8 10,.int .u8 25,.int .u8 14,.int .u8 19,.int .u8 9,.int .u8 13,.int .u8 8,.int .u8 7,.int .u8 6]
 let h3:=put h2 5 #[.int .u64 1,.int .u64 10,.int .u64 100,.int .u64 1000,.int .u64 10000,.int .u64 100000,.int .u64 1000000,.int .u64 10000000,.int .u64 100000000,.int .u64 1000000000,.int .u64 10000000000,.int .u64 100000000000,.int .u64 1000000000000,.int .u64 10000000000000,.int .u64 100000000000000,.int .u64 1000000000000000,.int .u64 10000000000000000,.int .u64 100000000000000000,.int .u64 1000000000000000000,.int .u64 10000000000000000000]
 let h4:=put h3 2 #[.int .u8 128,.int .u8 191,.int .u8 160,.int .u8 191,.int .u8 128,.int .u8 159,.int .u8 144,.int .u8 191,.int .u8 128,.int .u8 143,.int .u8 0,.int .u8 0,.int .u8 0,.int .u8 0,.int .u8 0,.int .u8 0,.int .u8 0,.int .u8 0,.int .u8 0,.int .u8 0,.int .u8 0,.int .u8 0,.int .u8 0,.int .u8 0,.int .u8 0,.int .u8 0,.int .u8 0,.int .u8 0,.int .u8 0,.int .u8 0,.int .u8 0,.int .u8 0]
 let h5:=put h4 4 #[.iface 291 (.pointer (some ⟨N+0,0,none⟩))]
 let h6:=put h5 3 #[.iface 291 (.pointer (some ⟨N+1,0,none⟩))]
 let h7:=put h6 1 (Pinned.utf8FirstZ.map fun (z:Nat)=>Value.int .u8 (Int.ofNat z)).toArray
 { w0 with heap:=h7 }
noncomputable abbrev N0:Nat:=(World.settled Tryz.prog default).heap.size
theorem yrq (os:Os) (args:Array Value):laidMet Tryz.prog Rows.schemaNearestUptoRow.laid ((laidWorld os).forCall (fun _ _=>0) ⟨#[],args,[]⟩).memory:=
 (LaidIn.of_run [6,7,5,2,4,N0+0,3,N0+1,1] 8 (by kernel_rfl) (by kernel_rfl) (by kernel_rfl) (by kernel_rfl)).met
theorem reads (os:Os) {H:Type} (enc:TypeId×Value->H):∃ places,DataW.whole enc Tryz.prog ((laidWorld os).forCall (fun _ _=>0) ⟨#[],#[.agg #[.slice none 0 0],.string ⟨#[]⟩,.string ⟨#[]⟩],[]⟩).memory Tryz.f3.params.toList Rows.schemaNearestSpec.vars false #[.agg #[.slice none 0 0],.string ⟨#[]⟩,.string ⟨#[]⟩].toList 8=some ([.agg [.nil],.lit (.string []),.lit (.string [])],[],places):=
 ⟨[],by kernel_rfl⟩
theorem ydg (os:Os) (started:os.Started) (H:Type) (enc:TypeId×Value->H) (F:Stop.Interp) :
  ReturnsInHanded {} Tryz.checked os 3 .any ((Rows.OpenSpec.upto Rows.schemaNearestSpec).preRow enc Tryz.prog Tryz.f3 Rows.schemaNearestUptoRow.domain false Rows.schemaNearestUptoRow.laid) (((Rows.OpenSpec.upto Rows.schemaNearestSpec).at F).post enc Tryz.prog Tryz.f3 false true false false):=by
 obtain⟨places,hx⟩:=reads os enc
 refine returnsInHanded_of_row (C:=Tryz.checked) (s:=(Rows.OpenSpec.upto Rows.schemaNearestSpec)) Tryz.own started (by kernel_rfl) Tryz.func3
  (witness_row_at (enc:=enc) (C:=Tryz.checked) false (laidWorld os) #[.agg #[.slice none 0 0],.string ⟨#[]⟩,.string ⟨#[]⟩] rfl (by kernel_rfl) (by kernel_rfl) (by kernel_rfl)
   (OpenSpec.preRow_of_cond 8 hx (by kernel_rfl) (fun k hk=>by cases hk;kernel_rfl) (by kernel_rfl) (yrq os _))) ?_
 intro W base args ds gs before hval0 hW _ hcond _ hL hsh _
 have hval:∀ (j:Nat) t v,Tryz.f3.params[j]?=some t->args[j]?=some v->Value.okWide Tryz.prog W .any base t v:=hval0
 have hW':=hW
 have hlt:∀ p ∈ before,p.block<W.heap.size:=fun p hp=>hW.lt p hp
 have hbulk:Rows.uptoSmall H (ds++gs)=true:=hcond _ rfl
 clear hcond
 obtain⟨p,q,hA0,hV,rfl,hfz,hnd⟩:=hW
 have hA:DataW.TrodAll enc Tryz.prog W 0 (fun _=>true) true Tryz.f3.params.toList args.toList ds p:=hA0
 have hAk:=hA
 rw[Tryz.params3] at hA hval
 obtain⟨v0,v1,v2,d0,d1,d2,p0,p1,p2,rfl,rfl,rfl,h0,h1,h2⟩:=trodAll_three hA
 obtain⟨rfl,rfl⟩:=trodVars_none hV
 obtain⟨su,ss,rfl,shV,shB⟩:=yk4 (hval 0 24 v0 rfl rfl) h0
 obtain⟨pt,rfl,rfl,rfl,wfpt⟩:=Go.ChangeMaps.open_string Tryz.underlying9 (hval 1 9 v1 rfl rfl) h1
 obtain⟨nm,rfl,rfl,rfl,wfnm⟩:=Go.ChangeMaps.open_string Tryz.underlying9 (hval 2 9 v2 rfl rfl) h2
 clear hA0 hval0
 have hw:Wf W:=⟨yjr Tryz.gPow Tryz.gPowType Tryz.underlying295 Tryz.underlying224 Tryz.cellsU64 Tryz.cellsPow (Lib.laidMet.reads hL (.tail _ (.tail _ (.head _)))),yep Tryz.gSyn Tryz.gSynType Tryz.underlying188 (Lib.laidMet.reads hL (.tail _ (.tail _ (.tail _ (.tail _ (.tail _ (.head _))))))),yep Tryz.gRng Tryz.gRngType Tryz.underlying188 (Lib.laidMet.reads hL (.tail _ (.tail _ (.tail _ (.tail _ (.head _))))))⟩
 obtain⟨mx,hmx⟩:=Tryz.laysM145.s1_3 W hsh
 have hws:Ws W:=⟨hw,World.block_lt_of_cell? _ _ hmx,mx,hmx⟩
 have h1:=of_decide_eq_true hbulk
 simp only[List.append_nil,Rows.uptoBulkAll,Rows.uptoBulk] at h1
 have hb1:bSch 1048576 ss:=yod _ _ _ (by omega) shB
 have hp1:pt.size<=1048576:=by
  have h2:=Lib.size_eq pt
  omega
 have hn1:nm.size<=1048576:=by
  have h2:=Lib.size_eq nm
  omega
 refine(yjw su ss pt nm W shV hb1 hp1 hn1 hws).mono fun e W' ⟨he,hw⟩=>?_
 subst he
 exact⟨_,rfl,yh5 (pv:=[]) hW' (fun _ _ _=>trodAll_mk1 (shut_bool Tryz.underlying4 _))
  (fun sp hsp=>ykf Tryz.laidOut (by kernel_rfl) hAk (fun p hp=>hw.same (hlt p (by simpa using hp))) (fun p hp=>hsp p (by simpa using hp))) (fun _ _=>rfl) (by simp) hw (ok_one (by kernel_rfl) rfl (okWide_bool_mk Tryz.underlying4 _))⟩
theorem yei:joinedFacts Tryz.pinned.checked.prog 3 Tryz.f3 (Rows.OpenSpec.upto Rows.schemaNearestSpec).bare Rows.schemaNearestUptoRow=true:=by
 unfold joinedFacts
 simp only[Bool.and_eq_true]
 repeat' apply And.intro
 all_goals (as_aux_lemma=>kernel_rfl)
theorem ydr:Rows.SchemaNearestUptoSaid:=
 OpenClaim.holds_of_cond 3 Tryz.f3 rfl rfl rfl rfl rfl rfl rfl ⟨rfl,rfl,rfl,rfl,rfl⟩ rfl rfl rfl rfl rfl (by as_aux_lemma=>kernel_rfl) Tryz.func3 yei
  (of_decide_eq_true (by kernel_rfl)) (by unfold Func.isWrapper;first|(rw[if_pos (by decide +kernel)];kernel_rfl)|(rw[if_neg (by decide +kernel)];exact⟨rfl,rfl⟩))
  (fun os started H enc _ F=>by rw[OpenClaim.pre_eq_preRow];exact ydg os started H enc F)
end Go.Proofs.YtajmjllhdcdkmaaGreatDoor
