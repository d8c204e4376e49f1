import Derived.RangeFuncNested
import Derived.RangeFuncBound
import Derived.RangeFuncCalls
import Derived.RangeFuncLeaves
namespace Go.Proofs.YtajmjllhdcdkmaaGreatDoor
open Go.RowKit
def boxPost (B:Nat) (Bs:Nat) (I:World->Prop) (W:World):Exit->Act->World->Prop
 | .normal,_,W'=>W'.heap[Bs]?=W.heap[Bs]?/\W'.heap[B]?=W.heap[B]?/\W'.heap[B+1]?=W.heap[B+1]?/\I W'
 | _,_,_=>False
theorem yfb {F:Fence} {n:Nat} {P:Program} {g:Operand} {ps:Array Tmp} {assign body:Code} {Q:Exit->Act->World->Prop} {a:Act} {w:World}
  (hro:F.round=none) (h1:1<=n) {gf:Nat} {lb:Array Value} (hg:a.eval g=.func (.func gf) #[] lb) (hFg:F.fn gf) (eg:∀ args w,(callFunc gf args).run P w=.ok (.enter gf args) w)
  (Bs:Nat) (hBs:Bs<w.heap.size) (xs:List ByteArray)
  (hseq:∀ (l:Nat) (J:List ByteArray->World->Prop) (W:World),(∀ s A B,J s A->A.grownBy B (some Bs)->J s B)->
   (∀ pre x W1,pre++[x] <+: xs->J pre W1->YieldAt F (n - 1 - 1) P l #[.string x] W1 fun e W'=>e=.returned (.bool true)/\J (pre++[x]) W'/\W'.heap[Bs]?=W1.heap[Bs]?)->
   J [] W->W.heap[Bs]?=w.heap[Bs]?->CallsIn F (n - 1) P gf (#[.func (.yield l) #[] #[]]++lb) W fun e W'=>(∃ v,e=.returned v)/\J xs W')
  (hps:ps.size=1)
  (I:List ByteArray->World->Prop) (hI:∀ s A B row,I s A->A.grownBy B row->(∀ r,row=some r->r=Bs\/w.heap.size<=r/\r<w.heap.size+2)->I s B) (h0:I [] w) (a₁:ByteArray->Act)
  (hassign:∀ (l:Nat) (x:ByteArray) (W:World) (K:Act->World->Prop),K (a₁ x) W->
   assign.wpIn (F.inRound l) (n - 1 - 1) P (Exit.then K (fun _ _ _=>False)) { tmps:=(ps.zip #[.string x]).foldl (fun t (p,v)=>t.setIfInBounds p v) a.tmps,defers:=[] } W)
  (hbody:∀ (l:Nat) (pre:List ByteArray) (x:ByteArray) (W:World),pre++[x] <+: xs->w.heap.size+1<W.heap.size->I pre W->body.wpIn (F.inRound l) (n - 1 - 1) P (boxPost w.heap.size Bs (I (pre++[x])) W) (a₁ x) W)
  (hdone:∀ (W:World),w.heap.size<W.heap.size->I xs W->W.heap[w.heap.size]?=some (.deferred (some []))->Q .normal { a with defers:={ target:=.collected w.heap.size,args:=#[] }::a.defers } W) :
  (Code.rangeFunc g ps assign body).wpIn F n P Q a w:=by
 refine wpIn_rangeFunc ?_
 intro fn hfn
 rw[hro]
 obtain⟨rec,hrec⟩:∃ rec:LoopState->Option Code->Loop,rec=fun st pe=>{ state:=st,pending:=pe,fn,tmps:=a.tmps,params:=ps,assign,body,defers:=w.heap.size }:=⟨_,rfl⟩
 obtain⟨W1,hW1⟩:∃ W1,(w.alloc (.deferred (some []))).alloc (.loop (rec .ready none))=W1:=⟨_,rfl⟩
 have hL1:W1.heap[w.heap.size+1]?=some (.loop (rec .ready none)):=by
  rw[<- hW1];have:=World.alloc_heap_new (w.alloc (.deferred (some []))) (.loop (rec .ready none));rwa [World.size_alloc] at this
 have hK1:W1.heap[w.heap.size]?=some (.deferred (some [])):=by
  rw[<- hW1];exact(Below.heap_alloc _ _ _ (by simp)).trans (World.alloc_heap_new w _)
 have hB1:W1.heap[Bs]?=w.heap[Bs]?:=by
  rw[<- hW1];exact(Below.heap_alloc _ _ _ (by simp;omega)).trans (Below.heap_alloc _ _ _ hBs)
 have hI1:I [] W1:=by
  rw[<- hW1]
  exact hI _ _ _ none (hI _ _ _ none h0 (World.grownBy_alloc _ _ none) (fun r e=>by cases e)) (World.grownBy_alloc _ _ none) (fun r e=>by cases e)
 refine⟨w.heap.size+1,[{ target:=.collected w.heap.size,args:=#[] }],W1,{ target:=.fn (.func gf) lb,args:=#[.func (.yield (w.heap.size+1)) #[] #[]] },W1,gf,
  #[.func (.yield (w.heap.size+1)) #[] #[]]++lb,W1,?_,?_,?_,?_,fun _=>h1,?_⟩
 ·rw[<- hW1,hrec];exact run_enterLoop_outer _ _ _ _ _
 ·simp only[resolve,hg]
  simp[go_sem]
 ·intro f' hf';simp[Target.leads] at hf';subst hf';exact hFg
 ·simp[invoke,go_sem,eg]
 ·have hput:∀ {s:List ByteArray} {W:World} {l:Nat} (o':Obj),I s W->w.heap.size<=l->l<w.heap.size+2->I s (W.putObj l o'):=fun {s W l} o' hs h1 h2=>
   hI s W _ (some l) hs (grownBy_putObj' W l o') (fun r e=>by cases e;exact .inr ⟨h1,h2⟩)
  refine(hseq (w.heap.size+1)
   (fun pre W=>I pre W/\W.heap[w.heap.size+1]?=some (.loop (rec .ready none))/\W.heap[w.heap.size]?=some (.deferred (some [])))
   W1
   (fun s A B hs hg'=>⟨hI s A B _ hs.1 hg' (fun r e=>by cases e;exact .inl rfl),
    (hg'.block _ (Array.getElem?_eq_some_iff.1 hs.2.1).1 (fun e=>by injection e with e;omega)).trans hs.2.1,
    (hg'.block _ (Array.getElem?_eq_some_iff.1 hs.2.2).1 (fun e=>by injection e with e;omega)).trans hs.2.2⟩)
   ?_ ⟨hI1,hL1,hK1⟩ hB1).mono ?_
  ·rintro pre x W hpre ⟨hi,hl,hk⟩
   have hlt:w.heap.size+1<W.heap.size:=(Array.getElem?_eq_some_iff.1 hl).1
   have hy:=run_yield (P:=P) (args:=#[.string x]) hl (by rw[hrec];exact hps.symm)
   rw[hrec] at hy
   refine⟨fn,_,assign,body,hy,roundIn_of_wpIn hfn (hassign _ x W _ ⟨_,run_beginRound hl (by rw[hrec]),?_⟩)⟩
   have hl2:(W.putObj (w.heap.size+1) (.loop { rec .ready none with state:=.busy })).heap[w.heap.size+1]?=some (.loop { rec .ready none with state:=.busy }):=World.putObj_heap_same hlt
   have hk2:(W.putObj (w.heap.size+1) (.loop { rec .ready none with state:=.busy })).heap[w.heap.size]?=some (.deferred (some [])):=(World.putObj_heap_other (by omega)).trans hk
   have hb2:(W.putObj (w.heap.size+1) (.loop { rec .ready none with state:=.busy })).heap[Bs]?=W.heap[Bs]?:=World.putObj_heap_other (by omega)
   refine wpIn_mono (hbody _ pre x _ hpre (by rw[World.putObj_size];exact hlt) (hput _ hi (by omega) (by omega))) ?_
   rintro e a3 W3 hp
   cases e with
   | normal=>
    obtain⟨q1,q2,q3,hi3⟩:=hp
    have hl3:=q3.trans hl2
    have hr:=run_endRound (P:=P) none hl3
    have hl4:(W3.putObj (w.heap.size+1) (.loop (rec .ready none))).heap[w.heap.size+1]?=some (.loop (rec .ready none)):=World.putObj_heap_same (Array.getElem?_eq_some_iff.1 hl3).1
    rw[hrec] at hr
    refine⟨_,_,hr,rfl,⟨hput _ hi3 (by omega) (by omega),?_,?_⟩,?_⟩
    ·rw[hrec] at hl4;rw[hrec];exact hl4
    ·exact(World.putObj_heap_other (by omega)).trans (q2.trans hk2)
    ·exact(World.putObj_heap_other (by omega)).trans (q1.trans hb2)
   | _=>exact hp.elim
  ·rintro e W2 ⟨⟨v,rfl⟩,hi,hl,hk⟩
   have hr:=run_endLoop (P:=P) hl (by rw[hrec];simp)
   rw[hrec] at hr
   refine⟨none,_,hr,hdone _ ?_ (hput _ hi (by omega) (by omega)) ((World.putObj_heap_other (by omega)).trans hk)⟩
   rw[World.putObj_size]
   exact(Array.getElem?_eq_some_iff.1 hk).1
end Go.Proofs.YtajmjllhdcdkmaaGreatDoor
