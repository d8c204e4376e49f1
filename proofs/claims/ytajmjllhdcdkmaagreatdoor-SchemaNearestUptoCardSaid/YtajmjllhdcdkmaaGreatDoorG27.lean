import Derived.Test.YtajmjllhdcdkmaaGreatDoorZ
import Derived.Test.YtajmjllhdcdkmaaGreatDoorG26
import Derived.Test.YtajmjllhdcdkmaaGreatDoorG22
import Derived.Test.YtajmjllhdcdkmaaGreatDoorG11
import Derived.Test.YtajmjllhdcdkmaaGreatDoorG23
import Derived.Deep.QuietTactic
import Derived.BigQuiet
set_option maxRecDepth 100000
set_option maxHeartbeats 12800000
namespace Go.Proofs.YtajmjllhdcdkmaaGreatDoor
open Go.RowKit Dg Q Num Str
theorem yk6:shapeB wokenS (bl ⟨#[47]⟩) ⟨⟨#[118]⟩,1,[⟨#[116]⟩],[2],⟨#[48]⟩,⟨#[109]⟩,[],[]⟩=some [2]:=by decide +kernel
theorem yta (v:Value) (w:World) (hV:VSchema w w.heap.size v wokenS) (hw:Ws w) :
  Calls Tryz.prog 18 #[.agg #[v],.string ⟨#[47]⟩,.string ⟨#[118]⟩] w fun e w'=>∃ A c,e=.returned (.tuple #[.slice A 1 c,.int .i64 0])/\VL kInt 1 w' w'.heap.size (.slice A 1 c) [2]/\Below w.heap.size w w':=by
 have FI:=fun w' (hb:Below w.heap.size w w')=>find_w v w' ((VL.keeps yah hV hb).lifts yai hb.size) (hw.up hb)
 have SH:=fun w' E1 d1 E2 d2 E3 d3 E4 d4 (hb:Below w.heap.size w w') (h1:VL kStr 1 w' w'.heap.size (.slice E1 1 d1) [⟨#[116]⟩])=>(show Calls Tryz.prog 15 #[.agg #[v],.string ⟨#[47]⟩,.agg #[.string ⟨#[118]⟩,.int .i64 1,.slice E1 1 d1,.slice E2 1 d2,.string ⟨#[48]⟩,.string ⟨#[109]⟩,.slice E3 0 d3,.slice E4 0 d4]] w' (ShapeR (some [2]) w') by
  have h:=ygq v wokenS ⟨#[47]⟩ ⟨⟨#[118]⟩,1,[⟨#[116]⟩],[2],⟨#[48]⟩,⟨#[109]⟩,[],[]⟩ (.slice E1 1 d1) (.slice E2 1 d2) (.slice E3 0 d3) (.slice E4 0 d4) w' ((VL.keeps yah hV hb).lifts yai hb.size) (by decide) h1 (by decide) (hw.up hb)
  rw[yk6] at h
  exact h)
 obtain⟨A0,n0,c0,rfl,hn0,_⟩:=id hV
 have hn1:n0=1:=hn0.symm
 subst hn1
 clear hV hw hn0
 go_enter Tryz.func18,Tryz.ntmps18
 go_wp2_with (first
  | (go_at_call 15;(with_reducible refine(SH _ E1 d1 E2 d2 E3 d3 E4 d4 (by (repeat (first|exact zJ _ _|assumption|refine yab ?_ _|refine zL ?_|refine yac ?_ (by assumption)|refine yaa ?_ _|refine zO ?_ (by simp<;>omega) _|refine zP ?_ (by simp<;>omega) _))) ((VL.keeps yav V1.out (by (repeat (first|exact zJ _ _|assumption|refine yab ?_ _|refine zL ?_|refine yac ?_ (by assumption)|refine yaa ?_ _|refine zO ?_ (by simp<;>omega) _|refine zP ?_ (by simp<;>omega) _)))).lifts yao (Below.size (B:=w1.heap.size) (by (repeat (first|exact zJ _ _|assumption|refine yab ?_ _|refine zL ?_|refine yac ?_ (by assumption)|refine yaa ?_ _|refine zO ?_ (by simp<;>omega) _|refine zP ?_ (by simp<;>omega) _)))))).mono ?_);rintro e w2 ⟨hb,vv,rfl,hr⟩;have hvl:=zh (hr.vl (fun z hz=>by rw[List.mem_singleton.1 hz];exact⟨by decide,by decide⟩) (by decide));have b2:Hid (Below w.heap.size w w2):=zh (by (repeat (first|exact zJ _ _|assumption|refine yab ?_ _|refine zL ?_|refine yac ?_ (by assumption)|refine yaa ?_ _|refine zO ?_ (by simp<;>omega) _|refine zP ?_ (by simp<;>omega) _)));clear hb hr)
  | (go_at_call 51;(with_reducible refine(FI _ (by (repeat (first|exact zJ _ _|assumption|refine yab ?_ _|refine zL ?_|refine yac ?_ (by assumption)|refine yaa ?_ _|refine zO ?_ (by simp<;>omega) _|refine zP ?_ (by simp<;>omega) _)))).mono ?_);rintro e w1 ⟨E1,d1,E2,d2,E3,d3,E4,d4,rfl,h1,h2,h3,h4,hb⟩;have k0:w1.cell? ⟨w.heap.size,0,none⟩=some (.slice A0 1 c0):=(hb.cell (p:=⟨w.heap.size,0,none⟩) (by simp)).trans (by go_keep);have b1:Below w.heap.size w w1:=(by (repeat (first|exact zJ _ _|assumption|refine yab ?_ _|refine zL ?_|refine yac ?_ (by assumption)|refine yaa ?_ _|refine zO ?_ (by simp<;>omega) _|refine zP ?_ (by simp<;>omega) _)));have V1:=zh h1;have z1:w.heap.size<w1.heap.size:=World.block_lt_of_cell? _ _ k0;clear hb h1 h2 h3 h4))
 go_ret2
 obtain⟨A,c,rfl,_,_⟩:=hvl.out.val
 exact⟨A,c,rfl,hvl.out,b2.out⟩
abbrev RdO (α:Type):=World->(Nat->Prop)->List Value->α->Prop
def Lcl {α:Type} (P:RdO α):Prop:=(∀ (w w':World) (F:Nat->Prop) (vs:List Value) (x:α),P w F vs x->(∀ b,F b->w'.heap[b]?=w.heap[b]?)->P w' F vs x)/\∀ (w:World) (F:Nat->Prop) (vs:List Value) (x:α),P w F vs x->∀ b,F b->b<w.heap.size
def Seps (F:Nat->Prop) (Fs:Nat->Nat->Prop):Prop:=(∀ j k b,Fs j b->Fs k b->j=k)/\∀ k b,Fs k b->F b
def DO {α:Type} (P:RdO α) (m:Nat) (t:TypeId) (w:World) (F:Nat->Prop) (v:Value) (xs:List α):Prop:=
 ∃ (rows:List (List Value)) (Fs:Nat->Nat->Prop),rows.length=xs.length/\w.ownsRow 0 t m v xs.length rows.flatten/\(∀ g,v.ownBlock=some g->F g/\∀ k,¬Fs k g)/\Seps F Fs/\(∀ b,F b->b<w.heap.size)/\
  ∀ (k:Nat) x,xs[k]?=some x->∃ vs,rows[k]?=some vs/\vs.length=m/\P w (Fs k) vs x
def flt {α:Type} (P:Rd α):RdO α:=fun w F vs x=>P w 0 vs x/\∀ b,¬F b
theorem yas {α:Type} {P:Rd α} (hP:Flat P):Lcl (flt P):=⟨fun _ _ _ _ _ h _=>⟨hP _ _ _ _ _ _ h.1,h.2⟩,fun _ _ _ _ h b hb=>absurd hb (h.2 b)⟩
theorem yeq {w:World} {base e m n:Nat} {v:Value} {xs:List Value} (h:w.ownsRow base e m v n xs) {g:Nat} (hg:v.ownBlock=some g):base<=g/\g<w.heap.size:=by
 rcases h.2 with ⟨rfl,_⟩|⟨g',cap,cur,rfl,hb,hk,_⟩
 ·cases hg
 ·injection hg with hg
  subst hg
  exact⟨hb,(Array.getElem?_eq_some_iff.1 hk).1⟩
theorem yh3 {w w':World} {base e m n:Nat} {v:Value} {xs:List Value} (h:w.ownsRow base e m v n xs) (hw:∀ g,v.ownBlock=some g->w'.heap[g]?=w.heap[g]?):w'.ownsRow base e m v n xs:=by
 obtain⟨h1,h2⟩:=h
 refine⟨h1,?_⟩
 rcases h2 with h2|⟨g,cap,cur,e1,e2,e3,e4⟩
 ·exact .inl h2
 ·exact .inr ⟨g,cap,cur,e1,e2,(hw g (by rw[e1];rfl)).trans e3,e4⟩
theorem DO.up {α:Type} {P:RdO α} (hP:Lcl P) {m:Nat} {t:TypeId} {w w':World} {F:Nat->Prop} {v:Value} {xs:List α} (h:DO P m t w F v xs) (hw:∀ b,F b->w'.heap[b]?=w.heap[b]?):DO P m t w' F v xs:=by
 obtain⟨rows,Fs,h1,h2,h3,h4,h5,h6⟩:=h
 refine⟨rows,Fs,h1,yh3 h2 fun g hg=>hw g (h3 g hg).1,h3,h4,fun b hb=>?_,fun k x hk=>?_⟩
 ·have hlt:=h5 b hb
  have e:=hw b hb
  rw[Array.getElem?_eq_getElem hlt] at e
  exact(Array.getElem?_eq_some_iff.1 e).1
 ·obtain⟨vs,e1,e2,e3⟩:=h6 k x hk
  exact⟨vs,e1,e2,hP.1 _ _ _ _ _ e3 fun b hb=>hw b (h4.2 k b hb)⟩
theorem DO.lt {α:Type} {P:RdO α} {m:Nat} {t:TypeId} {w:World} {F:Nat->Prop} {v:Value} {xs:List α} (h:DO P m t w F v xs):∀ b,F b->b<w.heap.size:=by
 obtain⟨_,_,_,_,_,_,h5,_⟩:=h
 exact h5
theorem DO.wide {α:Type} {P:RdO α} {m:Nat} {t:TypeId} {w:World} {F F':Nat->Prop} {v:Value} {xs:List α} (h:DO P m t w F v xs) (hF:∀ b,F b->F' b) (hl:∀ b,F' b->b<w.heap.size):DO P m t w F' v xs:=by
 obtain⟨rows,Fs,h1,h2,h3,h4,h5,h6⟩:=h
 exact⟨rows,Fs,h1,h2,fun g hg=>⟨hF g (h3 g hg).1,(h3 g hg).2⟩,⟨h4.1,fun k b hb=>hF b (h4.2 k b hb)⟩,hl,h6⟩
theorem DO.val {α:Type} {P:RdO α} {m:Nat} {t:TypeId} {w:World} {F:Nat->Prop} {v:Value} {xs:List α} (h:DO P m t w F v xs):∃ A c,v=.slice A xs.length c:=by
 obtain⟨rows,Fs,_,h3,_⟩:=h
 rcases h3.2 with ⟨hv,hn⟩|⟨g,cap,cur,hv,_⟩
 ·rw[hv,hn];exact⟨_,_,rfl⟩
 ·rw[hv];exact⟨_,_,rfl⟩
theorem DO.vl {α:Type} {P:RdO α} {Q:Rd α} {m:Nat} {t:TypeId} {w:World} {F:Nat->Prop} {v:Value} {xs:List α} (h:DO P m t w F v xs) (hPQ:∀ (w:World) (F:Nat->Prop) (vs:List Value) (x:α),P w F vs x->Q w w.heap.size vs x) (hQ:Lifts Q) (hl:xs.length<=9223372036854775807):VL Q m w w.heap.size v xs:=by
 obtain⟨rows,Fs,h1,h2,h3,h4,h5,h6⟩:=h
 refine OL.vl (t:=t) (base:=0) (B:=w.heap.size) ⟨rows,h1,fun k x hk=>?_,h2⟩ hQ (Nat.le_refl _) hl
 obtain⟨vs,e1,e2,e3⟩:=h6 k x hk
 exact⟨vs,e1,e2,hPQ _ _ _ _ e3⟩
theorem OL.dof {α:Type} {P:Rd α} {m:Nat} {t:TypeId} {base B:Nat} {w:World} {v:Value} {xs:List α} (h:OL P m t base w B v xs) (hP:Flat P):DO (flt P) m t w (fun b=>base<=b/\b<w.heap.size) v xs:=by
 obtain⟨rows,h1,h2,h3⟩:=h
 refine⟨rows,fun _ _=>False,h1,?_,fun g hg=>⟨yeq h3 hg,fun _=>id⟩,⟨fun _ _ _ h=>h.elim,fun _ _ h=>h.elim⟩,fun b hb=>hb.2,fun k x hk=>?_⟩
 ·exact yea h3 (Nat.zero_le _)
 ·obtain⟨vs,e1,e2,e3⟩:=h2 k x hk
  exact⟨vs,e1,e2,hP _ _ _ _ _ _ e3,fun _=>id⟩
def DM {α:Type} (P:RdO α) (Q:Rd α) (m:Nat) (t:TypeId) (w:World) (F:Nat->Prop) (B:Nat) (v:Value) (xs:List α) (i:Nat):Prop:=
 ∃ (rows:List (List Value)) (Fs:Nat->Nat->Prop),rows.length=xs.length/\w.ownsRow B t m v xs.length rows.flatten/\(∀ g,v.ownBlock=some g->F g/\∀ k,¬Fs k g)/\Seps F Fs/\(∀ b,F b->B<=b/\b<w.heap.size)/\(∀ k b,i<=k->¬Fs k b)/\
  ∀ (k:Nat) x,xs[k]?=some x->∃ vs,rows[k]?=some vs/\vs.length=m/\(if k<i then P w (Fs k) vs x else Q w B vs x)
theorem OL.dm {α:Type} {P:RdO α} {Q:Rd α} {m:Nat} {t:TypeId} {B:Nat} {w:World} {v:Value} {xs:List α} (h:OL Q m t B w B v xs):DM P Q m t w (fun b=>B<=b/\b<w.heap.size) B v xs 0:=by
 obtain⟨rows,h1,h2,h3⟩:=h
 refine⟨rows,fun _ _=>False,h1,h3,fun g hg=>⟨yeq h3 hg,fun _=>id⟩,⟨fun _ _ _ h=>h.elim,fun _ _ h=>h.elim⟩,fun b hb=>hb,fun _ _ _=>id,fun k x hk=>?_⟩
 obtain⟨vs,e1,e2,e3⟩:=h2 k x hk
 exact⟨vs,e1,e2,by rw[if_neg (Nat.not_lt_zero _)];exact e3⟩
theorem DM.all {α:Type} {P:RdO α} {Q:Rd α} {m:Nat} {t:TypeId} {B:Nat} {w:World} {F:Nat->Prop} {v:Value} {xs:List α} (h:DM P Q m t w F B v xs xs.length):DO P m t w F v xs:=by
 obtain⟨rows,Fs,h1,h2,h3,h4,h5,_,h6⟩:=h
 refine⟨rows,Fs,h1,yea h2 (Nat.zero_le _),h3,h4,fun b hb=>(h5 b hb).2,fun k x hk=>?_⟩
 obtain⟨vs,e1,e2,e3⟩:=h6 k x hk
 rw[if_pos (List.getElem?_eq_some_iff.1 hk).1] at e3
 exact⟨vs,e1,e2,e3⟩
theorem DM.up {α:Type} {P:RdO α} {Q:Rd α} (hP:Lcl P) (hQ:Keeps Q) {m:Nat} {t:TypeId} {B i:Nat} {w w':World} {F:Nat->Prop} {v:Value} {xs:List α} (h:DM P Q m t w F B v xs i) (hb:Below w.heap.size w w') (hB:B<=w.heap.size):DM P Q m t w' F B v xs i:=by
 obtain⟨rows,Fs,h1,h2,h3,h4,h5,h6,h7⟩:=h
 refine⟨rows,Fs,h1,ygz h2 hb,h3,h4,fun b hb'=>⟨(h5 b hb').1,Nat.lt_of_lt_of_le (h5 b hb').2 hb.size⟩,h6,fun k x hk=>?_⟩
 obtain⟨vs,e1,e2,e3⟩:=h7 k x hk
 refine⟨vs,e1,e2,?_⟩
 by_cases hki:k<i
 ·rw[if_pos hki] at e3 ⊢
  exact hP.1 _ _ _ _ _ e3 fun b hb'=>hb.block b (h5 b (h4.2 k b hb')).2
 ·rw[if_neg hki] at e3 ⊢
  exact hQ _ _ _ _ _ e3 (hb.mono hB)
theorem yf7 {m:Nat}:∀ {rows:List (List Value)} {k j:Nat} {r:List Value} {u:Value},(∀ r ∈ rows,r.length=m)->rows[k]?=some r->j<m->rows.flatten.set (k*m+j) u=(rows.set k (r.set j u)).flatten
 | [],k,j,r,u,_,hk,_=>by cases hk
 | a::rows,0,j,r,u,hl,hk,hj=>by
  injection hk with hk
  subst hk
  rw[List.flatten_cons,Nat.zero_mul,Nat.zero_add,List.set_append_left _ _ (by rw[hl a List.mem_cons_self];exact hj)]
  rfl
 | a::rows,k+1,j,r,u,hl,hk,hj=>by
  have ha:=hl a List.mem_cons_self
  rw[List.flatten_cons,List.set_append_right _ _ (by rw[ha,Nat.add_mul];omega),ha,show (k+1)*m+j - m=k*m+j by rw[Nat.add_mul];omega,yf7 (fun r hr=>hl r (List.mem_cons_of_mem _ hr)) hk hj]
  rfl
theorem DM.next {α:Type} {P:RdO α} {Q:Rd α} (hP:Lcl P) (hQ:Keeps Q) {m:Nat} {t:TypeId} {B i:Nat} {w w':World} {F F':Nat->Prop} {v:Value} {xs:List α} {x:α} {vs':List Value} (h:DM P Q m t w F B v xs i) (hx:xs[i]?=some x)
  (hrow:∀ (rows:List (List Value)) (r:List Value),w.ownsRow B t m v xs.length rows.flatten->rows.length=xs.length->(∀ r ∈ rows,r.length=m)->rows[i]?=some r->Q w B r x->w'.ownsRow B t m v xs.length (rows.set i vs').flatten)
  (hv:vs'.length=m) (hPx:P w' F' vs' x) (hF:∀ b,F' b->w.heap.size<=b) (hz:w.heap.size<=w'.heap.size) (hB:Below B w w')
  (hw:∀ b,b<w.heap.size->v.ownBlock≠some b->w'.heap[b]?=w.heap[b]?):DM P Q m t w' (fun b=>F b\/F' b) B v xs (i+1):=by
 obtain⟨rows,Fs,h1,h2,h3,h4,h5,h6,h7⟩:=h
 have hlen:∀ r ∈ rows,r.length=m:=fun r hr=>by
  obtain⟨k,hk⟩:=List.mem_iff_getElem?.1 hr
  have hlt:=(List.getElem?_eq_some_iff.1 hk).1
  obtain⟨vs,e,h3,_⟩:=h7 k xs[k] (List.getElem?_eq_getElem (by omega))
  rw[hk] at e
  injection e with e
  rw[e];exact h3
 have hli:i<rows.length:=by rw[h1];exact(List.getElem?_eq_some_iff.1 hx).1
 have hlt':=hP.2 _ _ _ _ hPx
 have key:∀ k b,Fs k b->b<w.heap.size:=fun k b a=>(h5 b (h4.2 k b a)).2
 obtain⟨r0,g1,_,g3⟩:=h7 i x hx
 rw[if_neg (Nat.lt_irrefl i)] at g3
 refine⟨rows.set i vs',fun k b=>(k=i/\F' b)\/(k≠i/\Fs k b),by rw[List.length_set];exact h1,hrow rows r0 h2 h1 hlen g1 g3,fun g hg=>⟨.inl (h3 g hg).1,fun k hk=>?_⟩,⟨fun j k b a c=>?_,fun k b a=>?_⟩,fun b hb=>?_,fun k b hk hh=>?_,fun k y hk=>?_⟩
 ·rcases hk with ⟨_,a⟩|⟨_,a⟩
  ·exact absurd (hF g a) (by have:=(yeq h2 hg).2;omega)
  ·exact(h3 g hg).2 k a
 ·rcases a with ⟨j1,a⟩|⟨j1,a⟩<;>rcases c with ⟨k1,c⟩|⟨k1,c⟩
  ·omega
  ·exact absurd (key k b c) (by have:=hF b a;omega)
  ·exact absurd (key j b a) (by have:=hF b c;omega)
  ·exact h4.1 j k b a c
 ·rcases a with ⟨_,a⟩|⟨_,a⟩
  ·exact .inr a
  ·exact .inl (h4.2 k b a)
 ·rcases hb with hb|hb
  ·exact⟨(h5 b hb).1,Nat.lt_of_lt_of_le (h5 b hb).2 hz⟩
  ·refine⟨?_,hlt' b hb⟩
   have h8:=hF b hb
   by_cases hg:∃ g,v.ownBlock=some g
   ·obtain⟨g,hg⟩:=hg
    have:=yeq h2 hg
    omega
   ·exfalso
    rcases h2.2 with ⟨_,hn⟩|⟨g,cap,cur,e,_⟩
    ·rw[h1,hn] at hli;exact absurd hli (Nat.not_lt_zero _)
    ·exact hg ⟨g,by rw[e];rfl⟩
 ·rcases hh with ⟨a,_⟩|⟨_,a⟩
  ·omega
  ·exact h6 k b (by omega) a
 ·obtain⟨vs,e1,e2,e3⟩:=h7 k y hk
  by_cases hki:k=i
  ·subst hki
   rw[hx] at hk
   injection hk with hk
   subst hk
   refine⟨vs',by rw[List.getElem?_set_self hli],hv,?_⟩
   rw[if_pos (Nat.lt_succ_self k)]
   have e:(fun b=>(k=k/\F' b)\/(k≠k/\Fs k b))=F':=by
    funext b
    simp
   dsimp only
   rw[e]
   exact hPx
  ·refine⟨vs,by rw[List.getElem?_set_ne (Ne.symm hki)];exact e1,e2,?_⟩
   have e:(fun b=>(k=i/\F' b)\/(k≠i/\Fs k b))=Fs k:=by
    funext b
    simp[hki]
   dsimp only
   rw[e]
   by_cases hlt:k<i
   ·rw[if_pos hlt] at e3
    rw[if_pos (by omega)]
    exact hP.1 _ _ _ _ _ e3 fun b hb=>hw b (h5 b (h4.2 k b hb)).2 fun e=>(h3 b e).2 k hb
   ·rw[if_neg hlt] at e3
    rw[if_neg (by omega)]
    exact hQ _ _ _ _ _ e3 hB
def kAttrO:RdO AttrD:=fun w F vs a=>∃ v,vs=[.string a.name,.int .i64 a.kind,.string a.text,v]/\okS a.name/\inI a.kind/\okS a.text/\DO (flt kStr) 1 9 w F v a.nums
def kVarO:RdO VarD:=fun w F vs x=>∃ v1 v2 v3 v4 Fs,vs=[.string x.name,.int .i64 x.typ,v1,v2,.string x.fill,.string x.unit,v3,v4]/\okS x.name/\inI x.typ/\okS x.fill/\okS x.unit/\Seps F Fs/\(∀ b,F b->b<w.heap.size)/\
 DO (flt kStr) 1 9 w (Fs 0) v1 x.dims/\DO (flt kInt) 1 3 w (Fs 1) v2 x.chunks/\DO (flt kStage) 3 130 w (Fs 2) v3 x.stages/\DO kAttrO 4 43 w (Fs 3) v4 x.attrs
def kGroupO:RdO GroupD:=fun w F vs g=>∃ v1 v2 v3 Fs,vs=[.string g.path,v1,v2,v3]/\okS g.path/\Seps F Fs/\(∀ b,F b->b<w.heap.size)/\
 DO (flt kDim) 3 26 w (Fs 0) v1 g.dims/\DO kVarO 8 41 w (Fs 1) v2 g.vars/\DO kAttrO 4 43 w (Fs 2) v3 g.attrs
theorem ybt:Lcl kAttrO:=⟨fun _ _ _ _ _ ⟨v,h1,h2,h3,h4,h5⟩ hw=>⟨v,h1,h2,h3,h4,h5.up (yas yaf) hw⟩,fun _ _ _ _ ⟨_,_,_,_,_,h5⟩=>h5.lt⟩
theorem ykw {w w':World} {F:Nat->Prop} (h:∀ b,F b->b<w.heap.size) (hw:∀ b,F b->w'.heap[b]?=w.heap[b]?):∀ b,F b->b<w'.heap.size:=fun b hb=>by
 have e:=hw b hb
 rw[Array.getElem?_eq_getElem (h b hb)] at e
 exact(Array.getElem?_eq_some_iff.1 e).1
theorem ydy:Lcl kVarO:=⟨fun _ _ _ _ _ ⟨v1,v2,v3,v4,Fs,h1,h2,h3,h4,h5,h6,h7,h8,h9,h10,h11⟩ hw=>⟨v1,v2,v3,v4,Fs,h1,h2,h3,h4,h5,h6,ykw h7 hw,h8.up (yas yaf) fun b hb=>hw b (h6.2 _ b hb),h9.up (yas yak) fun b hb=>hw b (h6.2 _ b hb),h10.up (yas ya7) fun b hb=>hw b (h6.2 _ b hb),h11.up ybt fun b hb=>hw b (h6.2 _ b hb)⟩,fun _ _ _ _ ⟨_,_,_,_,_,_,_,_,_,_,_,h7,_⟩=>h7⟩
theorem ya0:Lcl kGroupO:=⟨fun _ _ _ _ _ ⟨v1,v2,v3,Fs,h1,h2,h3,h4,h5,h6,h7⟩ hw=>⟨v1,v2,v3,Fs,h1,h2,h3,ykw h4 hw,h5.up (yas yax) fun b hb=>hw b (h3.2 _ b hb),h6.up ydy fun b hb=>hw b (h3.2 _ b hb),h7.up ybt fun b hb=>hw b (h3.2 _ b hb)⟩,fun _ _ _ _ ⟨_,_,_,_,_,_,_,h4,_⟩=>h4⟩
theorem DM.get {α:Type} {P:RdO α} {Q:Rd α} {m:Nat} {t:TypeId} {B i g n c:Nat} {w:World} {F:Nat->Prop} {xs:List α} {x:α} (h:DM P Q m t w F B (.slice (some ⟨g,0,none⟩) n c) xs i) (hx:xs[i]?=some x):∃ vs:List Value,vs.length=m/\Q w B vs x/\B<=g/\g<w.heap.size/\∀ (j:Nat) u,vs[j]?=some u->w.cell? ⟨g,i*m+j,none⟩=some u/\w.frozen? ⟨g,i*m+j,none⟩=false:=by
 obtain⟨rows,Fs,h1,h2,h3,h4,h5,h6,h7⟩:=h
 have hlen:∀ r ∈ rows,r.length=m:=fun r hr=>by
  obtain⟨k,hk⟩:=List.mem_iff_getElem?.1 hr
  have hlt:=(List.getElem?_eq_some_iff.1 hk).1
  obtain⟨vs,e,h3,_⟩:=h7 k xs[k] (List.getElem?_eq_getElem (by omega))
  rw[hk] at e
  injection e with e
  rw[e];exact h3
 obtain⟨vs,e1,e2,e3⟩:=h7 i x hx
 rw[if_neg (Nat.lt_irrefl i)] at e3
 have hn:n=xs.length:=by
  rcases h2.2 with ⟨hv,_⟩|⟨g',cap,cur,hv,_⟩
  ·cases hv
  ·injection hv
 subst hn
 have hlt:=yeq h2 rfl
 refine⟨vs,e2,e3,hlt.1,hlt.2,fun j u hj=>?_⟩
 have hjm:j<m:=by rw[<- e2];exact(List.getElem?_eq_some_iff.1 hj).1
 have hc:=yd7 h2 (j:=i*m+j) (u:=u) (by rw[yez hlen e1 hjm];exact hj)
 exact⟨hc.1,hc.2.1⟩
theorem DM.bnd {α:Type} {P:RdO α} {Q:Rd α} {m:Nat} {t:TypeId} {B i:Nat} {w:World} {F:Nat->Prop} {v:Value} {xs:List α} (h:DM P Q m t w F B v xs i):∀ b,F b->B<=b/\b<w.heap.size:=by
 obtain⟨_,_,_,_,_,_,h5,_⟩:=h
 exact h5
theorem DM.val {α:Type} {P:RdO α} {Q:Rd α} {m:Nat} {t:TypeId} {B i:Nat} {w:World} {F:Nat->Prop} {v:Value} {xs:List α} (h:DM P Q m t w F B v xs i):(v=.slice none 0 0/\xs=[])\/∃ g c,v=.slice (some ⟨g,0,none⟩) xs.length c/\xs.length<=c:=by
 obtain⟨rows,Fs,_,h3,_⟩:=h
 rcases h3.2 with ⟨hv,hn⟩|⟨g,cap,cur,hv,_,_,hc,_⟩
 ·exact .inl ⟨hv,List.length_eq_zero_iff.1 hn⟩
 ·exact .inr ⟨g,cap,hv,hc⟩
theorem yel (v:Value) (xs:List AttrD) (w:World) (hV:VL kAttr 4 w w.heap.size v xs) (hl:xs.length<=200000000000) (hn:∀ a ∈ xs,a.nums.length<=200000000000):Calls Tryz.prog 55 #[v] w fun e w'=>∃ v',e=.returned v'/\DO kAttrO 4 43 w' (fun b=>w.heap.size<=b/\b<w'.heap.size) v' xs/\Below w.heap.size w w':=by
 have CL:=ye0 v xs w hV hl
 have hz:xs.length<=9223372036854775807:=by omega
 clear hV
 go_enter Tryz.func55,Tryz.ntmps55
 have ST:=fun v xs w h hl=>yc9 v xs w h hl
 go_wp2_with (go_at_call 100;(with_reducible refine CL.mono ?_);rintro e w1 ⟨v',rfl,ho,hb⟩;obtain⟨A,c,rfl⟩:=ho.val;have M1:=zh (OL.dm (P:=kAttrO) ho);have B1:=zh hb;clear ho hb)
 go_loopw [9] (fun i wr=>∃ k:Nat,k<=xs.length/\i=.int .i64 (k:Int)/\Hid (∃ F:Nat->Prop,DM kAttrO kAttr 4 43 wr F w.heap.size (.slice A xs.length c) xs k/\Below w.heap.size w wr)) (fun i _=>(xs.length - intOf i).toNat)
 case atStart=>exact⟨0,Nat.zero_le _,rfl,zh ⟨_,M1.out,B1.out⟩⟩
 case round=>
  obtain⟨k,hk,rfl,hM⟩:=hrel
  obtain⟨F,hM,hB⟩:=hM.out
  have hkz:(k:Int)<=(xs.length:Int):=by omega
  by_cases hkn:k=xs.length
  ·subst hkn
   have MA:=zh hM.all
   have HB:=zh hB
   have HF:=zh hM.bnd
   clear CL M1 B1 hM hB hn
   go_wp2
   go_ret
   exact⟨_,rfl,MA.out.wide (fun b hb=>HF.out b hb) (fun b hb=>hb.2),HB.out⟩
  ·have hlt:k<xs.length:=by omega
   have hi:(k:Int)<(xs.length:Int):=by omega
   obtain⟨x,hx⟩:∃ x,xs[k]?=some x:=⟨xs[k],List.getElem?_eq_getElem hlt⟩
   rcases hM.val with ⟨h,h'⟩|⟨g,c',hv,hc⟩
   ·rw[h'] at hlt;exact absurd hlt (Nat.not_lt_zero _)
   injection hv with hv1 _ hv3
   subst hv1 hv3
   obtain⟨vs,hvl,⟨vN,rfl,hx1,hx2,hx3,hN⟩,hg1,hg2,hcell⟩:=hM.get hx
   obtain⟨h3,h4⟩:=hcell 3 vN rfl
   have hst:=ST vN x.nums wr (hN.lifts yao hB.size) (hn x (List.mem_of_getElem? hx))
   have HM:=zh (And.intro hM (And.intro hB (And.intro hx1 (And.intro hx2 hx3))))
   have HX:=zh hx
   clear hM hB hx1 hx2 hx3 hx hcell hvl hN CL ST M1 B1
   go_wp2_with (go_at_call 73;(with_reducible refine hst.mono ?_);rintro e w2 ⟨v2,rfl,ho,hb⟩;obtain⟨A2,c2,rfl⟩:=ho.val;have h3':w2.cell? ⟨g,k*4+3,none⟩=some vN:=(hb.cell (p:=⟨g,k*4+3,none⟩) hg2).trans h3;have h4':w2.frozen? ⟨g,k*4+3,none⟩=false:=(hb.frozen (p:=⟨g,k*4+3,none⟩) hg2).trans h4;have O2:=zh ho;have B2:=zh hb;clear ho hb)
   go_roundw
   case measure=>simp only[intOf];omega
   case rel=>
    refine⟨k+1,by omega,by simp,zh ?_⟩
    obtain⟨hM,hB,hx1,hx2,hx3⟩:=HM.out
    have hb:=B2.out
    have hL:Below wr.heap.size wr w2:=hb
    have hg3:g<w2.heap.size:=Nat.lt_of_lt_of_le hg2 hb.size
    refine⟨_,hM.next (F':=fun b=>wr.heap.size<=b/\b<w2.heap.size) (vs':=[.string x.name,.int .i64 x.kind,.string x.text,.slice A2 x.nums.length c2]) ybt yaq HX.out (fun rows r q1 q2 q3 q4 q5=>?_) rfl ⟨_,rfl,hx1,hx2,hx3,(O2.out.dof yaf).up (yas yaf) fun b hb'=>yae _ _ _ _ (by omega)⟩ (fun b hb'=>hb'.1) (by rw[size_setCell];exact hb.size) ?_ fun b h1 h2=>?_,?_⟩
    ·obtain⟨v0,rfl,_⟩:=q5
     have h5:=yg0 (ygz q1 hb) (k*4+3) (.slice A2 x.nums.length c2)
     rw[yf7 q3 q4 (by decide)] at h5
     exact h5
    ·exact(hb.mono hB.size).setCell (p:=⟨g,k*4+3,none⟩) hg1 _
    ·exact(yae _ _ _ _ (fun e=>h2 (by rw[e];rfl))).trans (hb.block b h1)
    ·exact(hB.trans (hb.mono hB.size)).setCell (p:=⟨g,k*4+3,none⟩) hg1 _
def Four (n0 n1 n2 n3 n4:Nat):Nat->Nat->Prop:=fun k b=>match k with
 | 0=>n0<=b/\b<n1
 | 1=>n1<=b/\b<n2
 | 2=>n2<=b/\b<n3
 | 3=>n3<=b/\b<n4
 | _=>False
theorem Four.seps {n0 n1 n2 n3 n4:Nat} {F:Nat->Prop} (h:n0<=n1/\n1<=n2/\n2<=n3/\n3<=n4) (hF:∀ b,n0<=b->b<n4->F b):Seps F (Four n0 n1 n2 n3 n4):=by
 refine⟨fun j k b a c=>?_,fun k b a=>?_⟩
 ·match j,k,a,c with
  | 0,0,_,_=>rfl
  | 1,1,_,_=>rfl
  | 2,2,_,_=>rfl
  | 3,3,_,_=>rfl
  | 0,1,a,c=>exact absurd a.2 (by have:=c.1;omega)
  | 0,2,a,c=>exact absurd a.2 (by have:=c.1;omega)
  | 0,3,a,c=>exact absurd a.2 (by have:=c.1;omega)
  | 1,0,a,c=>exact absurd c.2 (by have:=a.1;omega)
  | 1,2,a,c=>exact absurd a.2 (by have:=c.1;omega)
  | 1,3,a,c=>exact absurd a.2 (by have:=c.1;omega)
  | 2,0,a,c=>exact absurd c.2 (by have:=a.1;omega)
  | 2,1,a,c=>exact absurd c.2 (by have:=a.1;omega)
  | 2,3,a,c=>exact absurd a.2 (by have:=c.1;omega)
  | 3,0,a,c=>exact absurd c.2 (by have:=a.1;omega)
  | 3,1,a,c=>exact absurd c.2 (by have:=a.1;omega)
  | 3,2,a,c=>exact absurd c.2 (by have:=a.1;omega)
  | k+4,_,a,_=>exact a.elim
  | _,k+4,_,c=>exact c.elim
 ·match k,a with
  | 0,a=>exact hF b (by have:=a.1;omega) (by have:=a.2;omega)
  | 1,a=>exact hF b (by have:=a.1;omega) (by have:=a.2;omega)
  | 2,a=>exact hF b (by have:=a.1;omega) (by have:=a.2;omega)
  | 3,a=>exact hF b (by have:=a.1;omega) (by have:=a.2;omega)
  | k+4,a=>exact a.elim
theorem DO.more {α:Type} {P:RdO α} (hP:Lcl P) {m:Nat} {t:TypeId} {w w':World} {F:Nat->Prop} {v:Value} {xs:List α} (h:DO P m t w F v xs) (hb:Below w.heap.size w w'):DO P m t w' F v xs:=h.up hP fun b hb'=>hb.block b (h.lt b hb')
theorem yli (x:VarD) (v1 v2 v3 v4:Value) (w:World) (hd1:VL kStr 1 w w.heap.size v1 x.dims) (hd2:VL kInt 1 w w.heap.size v2 x.chunks) (hd3:VL kStage 3 w w.heap.size v3 x.stages) (hd4:VL kAttr 4 w w.heap.size v4 x.attrs) (ho:okS x.name/\inI x.typ/\okS x.fill/\okS x.unit) (hl:x.dims.length<=1000000000/\x.chunks.length<=1000000000/\x.stages.length<=1000000000/\x.attrs.length<=1000000000/\∀ a ∈ x.attrs,a.nums.length<=1000000000) :
  Calls Tryz.prog 56 #[.agg #[.string x.name,.int .i64 x.typ,v1,v2,.string x.fill,.string x.unit,v3,v4]] w fun e w'=>∃ E1 d1 E2 d2 E3 d3 E4 d4,e=.returned (.agg #[.string x.name,.int .i64 x.typ,.slice E1 x.dims.length d1,.slice E2 x.chunks.length d2,.string x.fill,.string x.unit,.slice E3 x.stages.length d3,.slice E4 x.attrs.length d4])/\kVarO w' (fun b=>w.heap.size<=b/\b<w'.heap.size) (#[.string x.name,.int .i64 x.typ,.slice E1 x.dims.length d1,.slice E2 x.chunks.length d2,.string x.fill,.string x.unit,.slice E3 x.stages.length d3,.slice E4 x.attrs.length d4]:Array Value).toList x/\Below w.heap.size w w':=by
 obtain⟨A1,c1,rfl,_,_⟩:=hd1.val
 obtain⟨A2,c2,rfl,_,_⟩:=hd2.val
 obtain⟨A3,c3,rfl,_,_⟩:=hd3.val
 obtain⟨A4,c4,rfl,_,_⟩:=hd4.val
 have C1:=fun w2 (hb:Below w.heap.size w w2)=>yc9 _ _ w2 ((VL.keeps yav hd1 hb).lifts yao hb.size) (by omega)
 have C2:=fun w2 (hb:Below w.heap.size w w2)=>yfu _ _ w2 ((VL.keeps ybr hd2 hb).lifts ybg hb.size) (by omega)
 have C3:=fun w2 (hb:Below w.heap.size w w2)=>yeo _ _ w2 ((VL.keeps ybe hd3 hb).lifts ya5 hb.size) (by omega)
 have C4:=fun w2 (hb:Below w.heap.size w w2)=>yel _ _ w2 ((VL.keeps yaq hd4 hb).lifts yap hb.size) (by omega) (fun a ha=>Nat.le_trans (hl.2.2.2.2 a ha) (by decide))
 have HN:=zh ho
 clear hd1 hd2 hd3 hd4 hl ho
 go_enter Tryz.func56,Tryz.ntmps56
 go_wp2_with fail
 have kx:Bk ((w.alloc (.cells #[.string x.name,.int .i64 x.typ,.slice A1 x.dims.length c1,.slice A2 x.chunks.length c2,.string x.fill,.string x.unit,.slice A3 x.stages.length c3,.slice A4 x.attrs.length c4] 41)).alloc (.cells #[.string ⟨#[]⟩,.int .i64 0,.slice none 0 0,.slice none 0 0,.string ⟨#[]⟩,.string ⟨#[]⟩,.slice none 0 0,.slice none 0 0] 41)) w.heap.size #[.string x.name,.int .i64 x.typ,.slice A1 x.dims.length c1,.slice A2 x.chunks.length c2,.string x.fill,.string x.unit,.slice A3 x.stages.length c3,.slice A4 x.attrs.length c4] 41:=(Bk.new w _ _).alloc
 have zx:((w.alloc (.cells #[.string x.name,.int .i64 x.typ,.slice A1 x.dims.length c1,.slice A2 x.chunks.length c2,.string x.fill,.string x.unit,.slice A3 x.stages.length c3,.slice A4 x.attrs.length c4] 41)).alloc (.cells #[.string ⟨#[]⟩,.int .i64 0,.slice none 0 0,.slice none 0 0,.string ⟨#[]⟩,.string ⟨#[]⟩,.slice none 0 0,.slice none 0 0] 41)).heap.size=w.heap.size+2:=by simp
 have zy:(w.alloc (.cells #[.string x.name,.int .i64 x.typ,.slice A1 x.dims.length c1,.slice A2 x.chunks.length c2,.string x.fill,.string x.unit,.slice A3 x.stages.length c3,.slice A4 x.attrs.length c4] 41)).heap.size=w.heap.size+1:=by simp
 have kz:Bk ((w.alloc (.cells #[.string x.name,.int .i64 x.typ,.slice A1 x.dims.length c1,.slice A2 x.chunks.length c2,.string x.fill,.string x.unit,.slice A3 x.stages.length c3,.slice A4 x.attrs.length c4] 41)).alloc (.cells #[.string ⟨#[]⟩,.int .i64 0,.slice none 0 0,.slice none 0 0,.string ⟨#[]⟩,.string ⟨#[]⟩,.slice none 0 0,.slice none 0 0] 41)) (w.heap.size+1) #[.string ⟨#[]⟩,.int .i64 0,.slice none 0 0,.slice none 0 0,.string ⟨#[]⟩,.string ⟨#[]⟩,.slice none 0 0,.slice none 0 0] 41:=by
  have:=Bk.new (w.alloc (.cells #[.string x.name,.int .i64 x.typ,.slice A1 x.dims.length c1,.slice A2 x.chunks.length c2,.string x.fill,.string x.unit,.slice A3 x.stages.length c3,.slice A4 x.attrs.length c4] 41)) #[.string ⟨#[]⟩,.int .i64 0,.slice none 0 0,.slice none 0 0,.string ⟨#[]⟩,.string ⟨#[]⟩,.slice none 0 0,.slice none 0 0] 41
  rwa [zy] at this
 have bx:Below w.heap.size w ((w.alloc (.cells #[.string x.name,.int .i64 x.typ,.slice A1 x.dims.length c1,.slice A2 x.chunks.length c2,.string x.fill,.string x.unit,.slice A3 x.stages.length c3,.slice A4 x.attrs.length c4] 41)).alloc (.cells #[.string ⟨#[]⟩,.int .i64 0,.slice none 0 0,.slice none 0 0,.string ⟨#[]⟩,.string ⟨#[]⟩,.slice none 0 0,.slice none 0 0] 41)):=by (repeat (first|exact zJ _ _|assumption|refine yab ?_ _|refine zL ?_|refine yac ?_ (by assumption)|refine yaa ?_ _|refine zO ?_ (by simp<;>omega) _|refine zP ?_ (by simp<;>omega) _))
 generalize hwx:(w.alloc (.cells #[.string x.name,.int .i64 x.typ,.slice A1 x.dims.length c1,.slice A2 x.chunks.length c2,.string x.fill,.string x.unit,.slice A3 x.stages.length c3,.slice A4 x.attrs.length c4] 41)).alloc (.cells #[.string ⟨#[]⟩,.int .i64 0,.slice none 0 0,.slice none 0 0,.string ⟨#[]⟩,.string ⟨#[]⟩,.slice none 0 0,.slice none 0 0] 41)=wx at *
 have HB:=zh (show ∀ w2,Below wx.heap.size wx w2->Below w.heap.size w w2 from fun w2 hb=>bx.trans (hb.mono bx.size))
 have HZ:=zh zx
 clear hwx zy bx
 refine wp_region_noPanic ?_
 refine xStartH (E:=[12,13,14,15,16,17,18,19]) (S:=fun w'=>Bk w' w.heap.size #[.string x.name,.int .i64 x.typ,.slice A1 x.dims.length c1,.slice A2 x.chunks.length c2,.string x.fill,.string x.unit,.slice A3 x.stages.length c3,.slice A4 x.attrs.length c4] 41/\Bk w' (w.heap.size+1) #[.string ⟨#[]⟩,.int .i64 0,.slice none 0 0,.slice none 0 0,.string ⟨#[]⟩,.string ⟨#[]⟩,.slice none 0 0,.slice none 0 0] 41/\Below wx.heap.size wx w') (by kernel_rfl) ⟨kx,kz,Below.drew (Below.refl _ _)⟩ fun hHeld=>?_
 have N0:Hid (w.heap.size+2<=wx.drew.heap.size):=zh (by show w.heap.size+2<=wx.heap.size;omega)
 generalize hw0:wx.drew=w0 at *
 clear hw0 kx kz zx
 refine xVal 0 3 (.pointer (some ⟨w.heap.size,2,none⟩)) hHeld (by kernel_rfl) (fun w' hSw=>?_) ?_
 ·simp only[List.getElem?_toArray,List.getElem?_cons_zero,Option.map_some,Option.some.injEq];first|(go_simp;done)|(with_reducible rfl)|(go_simp;omega)|(go_simp;go_show;fail)
 simp only[Act.put,zB,zC,zD]
 refine xVal 3 6 (.pointer (some ⟨w.heap.size,3,none⟩)) hHeld (by kernel_rfl) (fun w' hSw=>?_) ?_
 ·simp only[zE,zF,zG,zH,zI];first|(go_simp;done)|(with_reducible rfl)|(go_simp;omega)
 simp only[Act.put,zB,zC,zD]
 refine xVal 6 9 (.pointer (some ⟨w.heap.size,6,none⟩)) hHeld (by kernel_rfl) (fun w' hSw=>?_) ?_
 ·simp only[zE,zF,zG,zH,zI];first|(go_simp;done)|(with_reducible rfl)|(go_simp;omega)
 simp only[Act.put,zB,zC,zD]
 refine xVal 9 12 (.pointer (some ⟨w.heap.size,7,none⟩)) hHeld (by kernel_rfl) (fun w' hSw=>?_) ?_
 ·simp only[zE,zF,zG,zH,zI];first|(go_simp;done)|(with_reducible rfl)|(go_simp;omega)
 simp only[Act.put,zB,zC,zD]
 refine xVal 1 4 (.slice A1 x.dims.length c1) hHeld (by kernel_rfl) (fun w' hSw=>?_) ?_
 ·have q1:=hSw.1.cell 2;simp only[List.getElem?_toArray,List.getElem?_cons_succ,List.getElem?_cons_zero] at q1;simp only[zE,zF,zG,zH,zI];first|(go_simp;done)|(with_reducible rfl)|(go_simp;omega)
 simp only[Act.put,zB,zC,zD]
 refine xVal 4 7 (.slice A2 x.chunks.length c2) hHeld (by kernel_rfl) (fun w' hSw=>?_) ?_
 ·have q1:=hSw.1.cell 3;simp only[List.getElem?_toArray,List.getElem?_cons_succ,List.getElem?_cons_zero] at q1;simp only[zE,zF,zG,zH,zI];first|(go_simp;done)|(with_reducible rfl)|(go_simp;omega)
 simp only[Act.put,zB,zC,zD]
 refine xVal 7 10 (.slice A3 x.stages.length c3) hHeld (by kernel_rfl) (fun w' hSw=>?_) ?_
 ·have q1:=hSw.1.cell 6;simp only[List.getElem?_toArray,List.getElem?_cons_succ,List.getElem?_cons_zero] at q1;simp only[zE,zF,zG,zH,zI];first|(go_simp;done)|(with_reducible rfl)|(go_simp;omega)
 simp only[Act.put,zB,zC,zD]
 refine xVal 10 13 (.slice A4 x.attrs.length c4) hHeld (by kernel_rfl) (fun w' hSw=>?_) ?_
 ·have q1:=hSw.1.cell 7;simp only[List.getElem?_toArray,List.getElem?_cons_succ,List.getElem?_cons_zero] at q1;simp only[zE,zF,zG,zH,zI];first|(go_simp;done)|(with_reducible rfl)|(go_simp;omega)
 simp only[Act.put,zB,zC,zD]
 refine xEnter 2 5 73 #[.slice A1 x.dims.length c1] (by kernel_rfl) (by kernel_rfl) (by kernel_rfl) (C1 _ (HB.out _ hHeld.2.2)) ?_
 rintro e w1 ⟨v',rfl,ho,hb⟩
 have N1:=zh hb.size
 obtain⟨E1,d1,rfl⟩:=ho.val
 have D1:=zh (ho.dof yaf)
 clear ho
 refine⟨_,rfl,⟨Bk.up hHeld.1 hb,Bk.up hHeld.2.1 hb,yac hHeld.2.2 hb⟩,fun hHeld=>?_⟩
 clear hb
 simp only[Act.put,zB,zC,zD]
 refine xPure 12 15 (.pointer (some ⟨w.heap.size,2,none⟩)) (by kernel_rfl) (fun w'=>?_) ?_
 ·simp only[zE,zF,zG,zH,zI];first|(go_simp;done)|(with_reducible rfl)|(go_simp;omega)
 simp only[Act.put,zB,zC,zD]
 refine xEnter 5 8 101 #[.slice A2 x.chunks.length c2] (by kernel_rfl) (by kernel_rfl) (by kernel_rfl) (C2 _ (HB.out _ hHeld.2.2)) ?_
 rintro e w2 ⟨v',rfl,ho,hb⟩
 have D1:=zh (D1.out.more (yas yaf) hb)
 have N2:=zh hb.size
 obtain⟨E2,d2,rfl⟩:=ho.val
 have D2:=zh (ho.dof yak)
 clear ho
 refine⟨_,rfl,⟨Bk.up hHeld.1 hb,Bk.up hHeld.2.1 hb,yac hHeld.2.2 hb⟩,fun hHeld=>?_⟩
 clear hb
 simp only[Act.put,zB,zC,zD]
 refine xEnter 8 11 102 #[.slice A3 x.stages.length c3] (by kernel_rfl) (by kernel_rfl) (by kernel_rfl) (C3 _ (HB.out _ hHeld.2.2)) ?_
 rintro e w3 ⟨v',rfl,ho,hb⟩
 have D1:=zh (D1.out.more (yas yaf) hb)
 have D2:=zh (D2.out.more (yas yak) hb)
 have N3:=zh hb.size
 obtain⟨E3,d3,rfl⟩:=ho.val
 have D3:=zh (ho.dof ya7)
 clear ho
 refine⟨_,rfl,⟨Bk.up hHeld.1 hb,Bk.up hHeld.2.1 hb,yac hHeld.2.2 hb⟩,fun hHeld=>?_⟩
 clear hb
 simp only[Act.put,zB,zC,zD]
 refine xEnter 11 14 55 #[.slice A4 x.attrs.length c4] (by kernel_rfl) (by kernel_rfl) (by kernel_rfl) (C4 _ (HB.out _ hHeld.2.2)) ?_
 rintro e w4 ⟨v',rfl,ho,hb⟩
 have N4:=zh hb.size
 have D1:=zh (D1.out.more (yas yaf) hb)
 have D2:=zh (D2.out.more (yas yak) hb)
 have D3:=zh (D3.out.more (yas ya7) hb)
 obtain⟨E4,d4,rfl⟩:=ho.val
 have D4:=zh ho
 clear ho
 refine⟨_,rfl,⟨Bk.up hHeld.1 hb,Bk.up hHeld.2.1 hb,yac hHeld.2.2 hb⟩,fun hHeld=>?_⟩
 clear hb
 simp only[Act.put,zB,zC,zD]
 have K0:=zh hHeld.1
 have Z0:=zh hHeld.2.1
 have B0:=zh hHeld.2.2
 clear hHeld
 have q1:=K0.out.cell 2
 have q2:=K0.out.frozen 2
 simp only[List.getElem?_toArray,List.getElem?_cons_succ,List.getElem?_cons_zero] at q1
 refine xStore 13 (w4.setCell ⟨w.heap.size,2,none⟩ (.slice E1 x.dims.length d1)) (by kernel_rfl) (by kernel_rfl) ?_ (fun h=>absurd (by decide) h) ?_
 ·simp only[zE,zF,zG,zH,zI];first|(go_simp;done)|(with_reducible rfl)|(go_simp;omega)
 try simp only[Act.put,zB,zC,zD]
 have K1:=zh (K0.out.set (i:=2) (.slice E1 x.dims.length d1))
 simp only[List.setIfInBounds_toArray,List.set_cons_zero,List.set_cons_succ] at K1
 have Z1:=zh (Z0.out.set_other (h:=w.heap.size) (i:=2) (.slice E1 x.dims.length d1) (by omega))
 clear q1 q2
 refine xPure 14 16 (.pointer (some ⟨w.heap.size,3,none⟩)) (by kernel_rfl) (fun w'=>?_) ?_
 ·simp only[zE,zF,zG,zH,zI];first|(go_simp;done)|(with_reducible rfl)|(go_simp;omega)
 simp only[Act.put,zB,zC,zD]
 have q1:=K1.out.cell 3
 have q2:=K1.out.frozen 3
 simp only[List.getElem?_toArray,List.getElem?_cons_succ,List.getElem?_cons_zero] at q1
 refine xStore 15 ((w4.setCell ⟨w.heap.size,2,none⟩ (.slice E1 x.dims.length d1)).setCell ⟨w.heap.size,3,none⟩ (.slice E2 x.chunks.length d2)) (by kernel_rfl) (by kernel_rfl) ?_ (fun h=>absurd (by decide) h) ?_
 ·simp only[zE,zF,zG,zH,zI];first|(go_simp;done)|(with_reducible rfl)|(go_simp;omega)
 try simp only[Act.put,zB,zC,zD]
 have K2:=zh (K1.out.set (i:=3) (.slice E2 x.chunks.length d2))
 simp only[List.setIfInBounds_toArray,List.set_cons_zero,List.set_cons_succ] at K2
 have Z2:=zh (Z1.out.set_other (h:=w.heap.size) (i:=3) (.slice E2 x.chunks.length d2) (by omega))
 clear q1 q2
 refine xPure 16 17 (.pointer (some ⟨w.heap.size,6,none⟩)) (by kernel_rfl) (fun w'=>?_) ?_
 ·simp only[zE,zF,zG,zH,zI];first|(go_simp;done)|(with_reducible rfl)|(go_simp;omega)
 simp only[Act.put,zB,zC,zD]
 have q1:=K2.out.cell 6
 have q2:=K2.out.frozen 6
 simp only[List.getElem?_toArray,List.getElem?_cons_succ,List.getElem?_cons_zero] at q1
 refine xStore 17 (((w4.setCell ⟨w.heap.size,2,none⟩ (.slice E1 x.dims.length d1)).setCell ⟨w.heap.size,3,none⟩ (.slice E2 x.chunks.length d2)).setCell ⟨w.heap.size,6,none⟩ (.slice E3 x.stages.length d3)) (by kernel_rfl) (by kernel_rfl) ?_ (fun h=>absurd (by decide) h) ?_
 ·simp only[zE,zF,zG,zH,zI];first|(go_simp;done)|(with_reducible rfl)|(go_simp;omega)
 try simp only[Act.put,zB,zC,zD]
 have K3:=zh (K2.out.set (i:=6) (.slice E3 x.stages.length d3))
 simp only[List.setIfInBounds_toArray,List.set_cons_zero,List.set_cons_succ] at K3
 have Z3:=zh (Z2.out.set_other (h:=w.heap.size) (i:=6) (.slice E3 x.stages.length d3) (by omega))
 clear q1 q2
 refine xPure 18 18 (.pointer (some ⟨w.heap.size,7,none⟩)) (by kernel_rfl) (fun w'=>?_) ?_
 ·simp only[zE,zF,zG,zH,zI];first|(go_simp;done)|(with_reducible rfl)|(go_simp;omega)
 simp only[Act.put,zB,zC,zD]
 have q1:=K3.out.cell 7
 have q2:=K3.out.frozen 7
 simp only[List.getElem?_toArray,List.getElem?_cons_succ,List.getElem?_cons_zero] at q1
 refine xStore 19 ((((w4.setCell ⟨w.heap.size,2,none⟩ (.slice E1 x.dims.length d1)).setCell ⟨w.heap.size,3,none⟩ (.slice E2 x.chunks.length d2)).setCell ⟨w.heap.size,6,none⟩ (.slice E3 x.stages.length d3)).setCell ⟨w.heap.size,7,none⟩ (.slice E4 x.attrs.length d4)) (by kernel_rfl) (by kernel_rfl) ?_ (fun h=>absurd (by decide) h) ?_
 ·simp only[zE,zF,zG,zH,zI];first|(go_simp;done)|(with_reducible rfl)|(go_simp;omega)
 try simp only[Act.put,zB,zC,zD]
 have K4:=zh (K3.out.set (i:=7) (.slice E4 x.attrs.length d4))
 simp only[List.setIfInBounds_toArray,List.set_cons_zero,List.set_cons_succ] at K4
 have Z4:=zh (Z3.out.set_other (h:=w.heap.size) (i:=7) (.slice E4 x.attrs.length d4) (by omega))
 clear q1 q2
 refine xDone (by kernel_rfl) (tNoP ?_)
 have n0:w.heap.size+2<=w0.heap.size:=N0.out
 have n1:=N1.out
 have n2:=N2.out
 have n3:=N3.out
 have n4:=N4.out
 generalize hw5:World.setCell _ _ (.slice E4 x.attrs.length d4)=w5 at *
 have hsz:w5.heap.size=w4.heap.size:=by rw[<- hw5];simp
 have hot:∀ g,w.heap.size+2<=g->g<w4.heap.size->w5.heap[g]?=w4.heap[g]?:=fun g hg _=>by
  rw[<- hw5]
  simp only[World.setCell,Array.getElem?_modify]
  rw[if_neg (by omega),if_neg (by omega),if_neg (by omega),if_neg (by omega)]
 have hB5:Below w.heap.size w w5:=by rw[<- hw5];have hB4:=HB.out _ B0.out;(repeat (first|exact zJ _ _|assumption|refine yab ?_ _|refine zL ?_|refine yac ?_ (by assumption)|refine yaa ?_ _|refine zO ?_ (by simp<;>omega) _|refine zP ?_ (by simp<;>omega) _))
 have P1:=zh (D1.out.up (yas yaf) fun b hb=>hot b (by omega) (by omega))
 have P2:=zh (D2.out.up (yas yak) fun b hb=>hot b (by omega) (by omega))
 have P3:=zh (D3.out.up (yas ya7) fun b hb=>hot b (by omega) (by omega))
 have P4:=zh (D4.out.up ybt fun b hb=>hot b (by omega) (by omega))
 have H5:=zh hB5
 have HS:=zh hsz
 clear hw5 hsz hot hB5 D1 D2 D3 D4 K0 K1 K2 K3 Z0 Z1 Z2 Z3 B0
 go_upto_region 2 with fail
 refine wp_region_lit ?_
 refine yek rfl 41 (.tmp 1) rfl w.heap.size #[.string x.name,.int .i64 x.typ,.slice E1 x.dims.length d1,.slice E2 x.chunks.length d2,.string x.fill,.string x.unit,.slice E3 x.stages.length d3,.slice E4 x.attrs.length d4] rfl 41 _ K4.out Tryz.underlying41 rfl ?hi ?_
 case hi=>kernel_rfl
 simp only[Act.put,zB,zC,zD]
 refine ydx rfl 41 (.tmp 2) (.tmp 19) rfl (w.heap.size+1) #[.string x.name,.int .i64 x.typ,.slice E1 x.dims.length d1,.slice E2 x.chunks.length d2,.string x.fill,.string x.unit,.slice E3 x.stages.length d3,.slice E4 x.attrs.length d4] rfl rfl 41 #[.string ⟨#[]⟩,.int .i64 0,.slice none 0 0,.slice none 0 0,.string ⟨#[]⟩,.string ⟨#[]⟩,.slice none 0 0,.slice none 0 0] Z4.out ?hi rfl ?h6 ?_
 case hi=>kernel_rfl
 case h6=>simp[Value.oneCell']
 simp only[Act.put]
 have kF:=Z4.out.row #[.string x.name,.int .i64 x.typ,.slice E1 x.dims.length d1,.slice E2 x.chunks.length d2,.string x.fill,.string x.unit,.slice E3 x.stages.length d3,.slice E4 x.attrs.length d4]
 have hot:∀ g,w.heap.size+2<=g->g<w5.heap.size->(w5.setRow (w.heap.size+1) #[.string x.name,.int .i64 x.typ,.slice E1 x.dims.length d1,.slice E2 x.chunks.length d2,.string x.fill,.string x.unit,.slice E3 x.stages.length d3,.slice E4 x.attrs.length d4]).heap[g]?=w5.heap[g]?:=fun g hg _=>setRow_other _ _ _ _ (by omega)
 have hs5:=HS.out
 have P1:=zh (P1.out.up (yas yaf) fun b hb=>hot b (by omega) (by omega))
 have P2:=zh (P2.out.up (yas yak) fun b hb=>hot b (by omega) (by omega))
 have P3:=zh (P3.out.up (yas ya7) fun b hb=>hot b (by omega) (by omega))
 have P4:=zh (P4.out.up ybt fun b hb=>hot b (by omega) (by omega))
 have hsz6:(w5.setRow (w.heap.size+1) #[.string x.name,.int .i64 x.typ,.slice E1 x.dims.length d1,.slice E2 x.chunks.length d2,.string x.fill,.string x.unit,.slice E3 x.stages.length d3,.slice E4 x.attrs.length d4]).heap.size=w5.heap.size:=by simp[World.setRow]
 have H6:=zh (yby (g:=w.heap.size+1) H5.out (Nat.le_succ _) #[.string x.name,.int .i64 x.typ,.slice E1 x.dims.length d1,.slice E2 x.chunks.length d2,.string x.fill,.string x.unit,.slice E3 x.stages.length d3,.slice E4 x.attrs.length d4])
 clear hot H5 K4 Z4
 generalize hwf:World.setRow _ _ _=wf at *
 clear hwf
 have hs6:wf.heap.size=w4.heap.size:=by omega
 clear hsz6 hs5
 go_wp2
 have hL:=yaw (P:=Tryz.prog) kF Tryz.underlying41 rfl (by kernel_rfl)
 refine bodyPost_ret (yi3 rfl rfl hL) rfl ?_
 refine⟨E1,d1,E2,d2,E3,d3,E4,d4,rfl,⟨_,_,_,_,Four w0.heap.size w1.heap.size w2.heap.size w3.heap.size w4.heap.size,rfl,HN.out.1,HN.out.2.1,HN.out.2.2.1,HN.out.2.2.2,Four.seps ⟨n1,n2,n3,n4⟩ fun b h1 h2=>⟨by omega,by omega⟩,fun b hb=>hb.2,P1.out,P2.out,P3.out,P4.out⟩,H6.out⟩
theorem yey {base e m g cap n k:Nat}:∀ (us:List Value) (i:Nat) {w:World} {rows:List (List Value)} {r:List Value},w.ownsRow base e m (.slice (some ⟨g,0,none⟩) n cap) n rows.flatten->(∀ r ∈ rows,r.length=m)->rows[k]?=some r->i+us.length=m->(w.setCells g (k*m+i) us).ownsRow base e m (.slice (some ⟨g,0,none⟩) n cap) n (rows.set k (r.take i++us)).flatten
 | [],i,w,rows,r,h,hl,hk,hi=>by
  have hr:r.length=m:=hl r (List.mem_of_getElem? hk)
  have hlt:=(List.getElem?_eq_some_iff.1 hk).1
  have e:rows.set k (r.take i++[])=rows:=by
   rw[List.append_nil,List.take_of_length_le (by rw[hr];simp at hi;omega)]
   have h2:=(List.getElem?_eq_some_iff.1 hk).2
   rw[<- h2]
   exact List.set_getElem_self hlt
  rw[e]
  exact h
 | u::us,i,w,rows,r,h,hl,hk,hi=>by
  have hr:r.length=m:=hl r (List.mem_of_getElem? hk)
  have hlt:=(List.getElem?_eq_some_iff.1 hk).1
  rw[List.length_cons] at hi
  have h1:=yg0 h (k*m+i) u
  rw[yf7 hl hk (by omega)] at h1
  have hl2:∀ x ∈ rows.set k (r.set i u),x.length=m:=fun x hx=>by
   rcases List.mem_or_eq_of_mem_set hx with hx|hx
   ·exact hl x hx
   ·rw[hx,List.length_set];exact hr
  have h2:=yey us (i+1) h1 hl2 (List.getElem?_set_self hlt) (by omega)
  rw[List.set_set] at h2
  have e:(r.set i u).take (i+1)++us=r.take i++u::us:=by
   rw[List.take_add_one,List.getElem?_set_self (by omega),List.take_set_of_le (Nat.le_refl _)]
   simp
  rw[e] at h2
  exact h2
theorem ycp (g:Nat):∀ (us:List Value) (o:Nat) (w:World),(w.setCells g o us).heap.size=w.heap.size
 | [],_,_=>rfl
 | u::us,o,w=>by
  show ((w.setCell ⟨g,o,none⟩ u).setCells g (o+1) us).heap.size=_
  rw[ycp g us,size_setCell]
theorem yaz (g:Nat):∀ (us:List Value) (o:Nat) (w:World) {k:Nat},k≠g->(w.setCells g o us).heap[k]?=w.heap[k]?
 | [],_,_,_,_=>rfl
 | u::us,o,w,k,h=>by
  show ((w.setCell ⟨g,o,none⟩ u).setCells g (o+1) us).heap[k]?=_
  rw[yaz g us _ _ h,yae _ _ _ _ h]
theorem yca {n g:Nat}:∀ (us:List Value) (o:Nat) {w w':World},Below n w w'->n<=g->Below n w (w'.setCells g o us)
 | [],_,_,_,h,_=>h
 | u::us,o,w,w',h,hg=>by
  show Below n w ((w'.setCell ⟨g,o,none⟩ u).setCells g (o+1) us)
  exact yca us _ (h.setCell (p:=⟨g,o,none⟩) hg u) hg
theorem DM.there {α:Type} {P:RdO α} {Q:Rd α} {m:Nat} {t:TypeId} {B i g n c:Nat} {w:World} {F:Nat->Prop} {xs:List α} {x:α} (h:DM P Q m t w F B (.slice (some ⟨g,0,none⟩) n c) xs i) (hx:xs[i]?=some x):w.there g (i*m) m:=by
 obtain⟨vs,h1,_,_,_,h2⟩:=h.get hx
 intro j hj
 obtain⟨u,hu⟩:∃ u,vs[j]?=some u:=⟨_,List.getElem?_eq_getElem (by omega)⟩
 have h3:=h2 j u hu
 exact⟨by rw[h3.1];rfl,h3.2⟩
theorem DM.range {α:Type} {P:RdO α} {Q:Rd α} {m:Nat} {t:TypeId} {B i g n c:Nat} {w:World} {F:Nat->Prop} {xs:List α} {x:α} (h:DM P Q m t w F B (.slice (some ⟨g,0,none⟩) n c) xs i) (hx:xs[i]?=some x):∃ vs:List Value,vs.length=m/\Q w B vs x/\B<=g/\g<w.heap.size/\w.rangeAt g (i*m) vs:=by
 obtain⟨vs,h1,h2,h3,h4,h5⟩:=h.get hx
 exact⟨vs,h1,h2,h3,h4,fun j u hj=>(h5 j u hj).1⟩
theorem DM.store {α:Type} {P:RdO α} {Q:Rd α} (hP:Lcl P) (hQ:Keeps Q) {m:Nat} {t:TypeId} {B i g n c:Nat} {w w1:World} {F F':Nat->Prop} {xs:List α} {x:α} {vs':List Value} (h:DM P Q m t w F B (.slice (some ⟨g,0,none⟩) n c) xs i) (hx:xs[i]?=some x)
  (hb:Below w.heap.size w w1) (hBw:B<=w.heap.size) (hv:vs'.length=m) (hPx:P w1 F' vs' x) (hF:∀ b,F' b->w.heap.size<=b):DM P Q m t (w1.setCells g (i*m) vs') (fun b=>F b\/F' b) B (.slice (some ⟨g,0,none⟩) n c) xs (i+1):=by
 obtain⟨vs,_,_,hg1,hg2,_⟩:=h.get hx
 have hn:n=xs.length:=by
  rcases h.val with ⟨hv,_⟩|⟨g',cap,hv,_⟩
  ·cases hv
  ·injection hv
 refine h.next hP hQ hx (fun rows r q1 _ q3 q4 _=>?_) hv ?_ hF ?_ ?_ ?_
 ·rw[hn] at q1 ⊢
  have q1':w.ownsRow B t m (.slice (some ⟨g,0,none⟩) xs.length c) xs.length rows.flatten:=q1
  have h5:=yey (k:=i) vs' 0 (ygz q1' hb) q3 q4 (by omega)
  rw[Nat.add_zero,List.take_zero,List.nil_append] at h5
  exact h5
 ·exact hP.1 _ _ _ _ _ hPx fun b hb'=>yaz g vs' _ _ (by have:=hF b hb';omega)
 ·rw[ycp];exact hb.size
 ·exact yca vs' _ (hb.mono hBw) hg1
 ·exact fun b h1 h2=>(yaz g vs' _ _ (fun e=>h2 (by rw[e];rfl))).trans (hb.block b h1)
def smallV (x:VarD):Prop:=x.dims.length<=1000000000/\x.chunks.length<=1000000000/\x.stages.length<=1000000000/\x.attrs.length<=1000000000/\∀ a ∈ x.attrs,a.nums.length<=1000000000
def smallG (g:GroupD):Prop:=g.dims.length<=1000000000/\g.vars.length<=1000000000/\g.attrs.length<=1000000000/\(∀ a ∈ g.attrs,a.nums.length<=1000000000)/\∀ x ∈ g.vars,smallV x
def belowB (p top:List UInt8):Bool:=p==top||(top==[47]||(top++[47]).isPrefixOf p)
def mentB (top n:List UInt8) (g:GroupD) (v:VarD):Bool:=belowB (bl g.path) top&&decide (n ∈ v.dims.map bl)
def mentionsB (s:List GroupD) (top n:List UInt8):Bool:=s.any fun g=>g.vars.any (mentB top n g)
theorem ygh (X G n cap g:Nat) (w:World) (h0:w.cell? ⟨X,0,none⟩=some (.slice (some ⟨G,0,none⟩) n cap)) (h1:w.cell? ⟨X,21,none⟩=some (.int .i64 (g:Int))) (hg:g<n) :
  Calls Tryz.prog 59 #[.pointer (some ⟨X,0,none⟩)] w fun e w'=>e=.returned (.pointer (some ⟨G,g*4,none⟩))/\∃ k,w'=w.drewN k:=by
 have hg':(g:Int)<(n:Int):=by omega
 go_enter Tryz.func59,Tryz.ntmps59
 go_wp2
 go_quiet (fail)
 go_wp2
 go_ret
 exact⟨rfl,_,rfl⟩
theorem yom (P T:ByteArray) (ht:T.size<=4000000000) (w:World):Calls Tryz.prog 60 #[.string P,.string T] w fun e w'=>e=.returned (.bool (belowB (bl P) (bl T)))/\w=w':=by
 have e1:(P.toList==T.toList)=(bl P==bl T):=by rw[Lib.toList_data,Lib.toList_data];rfl
 have e2:(T.toList==[47])=(bl T==[47]):=by rw[Lib.toList_data];rfl
 have HP:=fun w'=>Tryz.strings_HasPrefix P (T++⟨#[47]⟩) w'
 have hT:(T.size:Int)<=4000000000:=by omega
 have e3:Lib.hasPrefix P.data.toList (T++⟨#[47]⟩:ByteArray).data.toList=(bl T++[47]).isPrefixOf (bl P):=by
  rw[ByteArray.data_append,Array.toList_append]
  rfl
 rw[e3] at HP
 obtain⟨r,hr⟩:∃ r,belowB (bl P) (bl T)=r:=⟨_,rfl⟩
 rw[hr]
 unfold belowB at hr
 cases h1:(bl P==bl T)
 ·cases h2:(bl T==[47])
  ·obtain⟨q,hq⟩:∃ q,(bl T++[47]).isPrefixOf (bl P)=q:=⟨_,rfl⟩
   rw[h1,h2,hq,Bool.false_or,Bool.false_or] at hr
   subst hr
   rw[hq] at HP
   rw[h1] at e1
   rw[h2] at e2
   clear h1 h2 hq e3
   go_enter Tryz.func60,Tryz.ntmps60
   go_wp2_with (go_at_call 107;(with_reducible refine(HP _).mono ?_);rintro e w' ⟨rfl,rfl⟩)
   go_ret
   exact⟨rfl,rfl⟩
  ·rw[h1,h2,Bool.false_or,Bool.true_or] at hr
   subst hr
   rw[h1] at e1
   rw[h2] at e2
   clear h1 h2 e3 HP
   go_enter Tryz.func60,Tryz.ntmps60
   go_wp2
   go_ret
   exact⟨rfl,rfl⟩
 ·rw[h1,Bool.true_or] at hr
  subst hr
  rw[h1] at e1
  clear h1 e3 HP e2
  go_enter Tryz.func60,Tryz.ntmps60
  go_wp2
  go_ret
  exact⟨rfl,rfl⟩
theorem ylq {α:Type} {p:α->Bool} {l:List α} {k:Nat} {x:α} (hk:l[k]?=some x) (h:p x=true):l.any p=true:=List.any_eq_true.2 ⟨x,List.mem_of_getElem? hk,h⟩
theorem ye2 {α:Type} {p:α->Bool} {l:List α} {k:Nat} {c:α} (hk:l[k]?=some c):(l.take (k+1)).any p=((l.take k).any p||p c):=by
 rw[List.take_add_one,hk,List.any_append]
 simp
theorem yot {α:Type} {p:α->Bool} {l:List α} (h:∀ (i:Nat) x,l[i]?=some x->p x=false):l.any p=false:=by
 rw[List.any_eq_false]
 intro x hx
 obtain⟨i,hi⟩:=List.mem_iff_getElem?.1 hx
 rw[h i x hi];exact Bool.false_ne_true
theorem yjx (X:Nat) (A:Option Addr) (n c:Nat) (xs:List GroupD) (P N:ByteArray) (w:World) (hV:VSchema w w.heap.size (.slice A n c) xs) (hn:xs.length=n) (hP:P.size<=4000000000) (k0:w.cell? ⟨X,0,none⟩=some (.slice A n c)) (k2:w.cell? ⟨X,2,none⟩=some (.string P)) :
  Calls Tryz.prog 62 #[.pointer (some ⟨X,0,none⟩),.string N] w fun e w'=>e=.returned (.bool (mentionsB xs (bl P) (bl N)))/\Below w.heap.size w w':=by
 have hXl:X<w.heap.size:=World.block_lt_of_cell? _ _ k0
 have hn63:n<=9223372036854775807:=by
  obtain⟨_,_,_,e,h1,_,h3,_⟩:=hV
  injection e with _ e2 _
  omega
 have nb:(n:Int)<=9223372036854775807:=by omega
 obtain⟨R,hR⟩:∃ R,mentionsB xs (bl P) (bl N)=R:=⟨_,rfl⟩
 rw[hR]
 have HR:=zh hR
 have HV:=zh hV
 have HK2:=zh k2
 clear hV hR k2
 go_enter Tryz.func62,Tryz.ntmps62
 go_wp2
 go_loopw [15] (fun i wr=>∃ m:Nat,m<=n/\i=.int .i64 (m:Int)/\Hid (∀ i x,i<m->xs[i]?=some x->x.vars.any (mentB (bl P) (bl N) x)=false)/\Hid (Below w.heap.size w wr)) (fun i _=>(n - intOf i).toNat)
 case atStart=>exact⟨0,Nat.zero_le _,rfl,zh (fun i x h=>by omega),zh (Below.refl _ _)⟩
 case round=>
  obtain⟨m,hm,rfl,hA,hB⟩:=hrel
  by_cases hmk:m=n
  ·have hX:R=false:=by
    rw[<- HR.out]
    exact yot fun i x hx=>hA.out i x (by have:=(List.getElem?_eq_some_iff.1 hx).1;omega) hx
   subst hmk
   subst hX
   have b1:=zh hB.out
   clear HV HK2 hA hB HR
   go_wp2
   go_ret
   exact⟨rfl,b1.out⟩
  ·have hlt:m<n:=by omega
   have hi:(m:Int)<(n:Int):=by omega
   obtain⟨x,hx⟩:∃ x,xs[m]?=some x:=⟨_,List.getElem?_eq_getElem (by omega)⟩
   obtain⟨b0,off,cs,rfl,hb0,_,hr,hp⟩:=HV.out.get hx
   obtain⟨v1,v2,v3,rfl,hpo,l1,l2,l3⟩:=hp
   obtain⟨B1,u1,rfl,_,_⟩:=l1.val
   obtain⟨B2,u2,rfl,hu1,hu2⟩:=l2.val
   obtain⟨B3,u3,rfl,_,_⟩:=l3.val
   have hBw:=hB.out
   have e0:wr.cell? ⟨b0,off+m*4,none⟩=some (.string x.path):=(hBw.cell (p:=⟨b0,off+m*4,none⟩) hb0).trans (hr 0 _ rfl)
   have e1:wr.cell? ⟨b0,off+m*4+1,none⟩=some (.slice B1 x.dims.length u1):=(hBw.cell (p:=⟨b0,off+m*4+1,none⟩) hb0).trans (hr 1 _ rfl)
   have e2:wr.cell? ⟨b0,off+m*4+2,none⟩=some (.slice B2 x.vars.length u2):=(hBw.cell (p:=⟨b0,off+m*4+2,none⟩) hb0).trans (hr 2 _ rfl)
   have e3:wr.cell? ⟨b0,off+m*4+3,none⟩=some (.slice B3 x.attrs.length u3):=(hBw.cell (p:=⟨b0,off+m*4+3,none⟩) hb0).trans (hr 3 _ rfl)
   have pb:(x.vars.length:Int)<=9223372036854775807:=by omega
   have HL2:=zh l2
   have HA2:=zh (show x.vars.any (mentB (bl P) (bl N) x)=false->∀ i x,i<m+1->xs[i]?=some x->x.vars.any (mentB (bl P) (bl N) x)=false from fun h i z hi hz=>by
    by_cases e:i=m
    ·subst e
     rw[hx] at hz
     injection hz with hz
     rw[<- hz];exact h
    ·exact hA.out i z (by omega) hz)
   have HXn:=zh (show x.vars.any (mentB (bl P) (bl N) x)=true->R=true from fun h=>by
    rw[<- HR.out]
    exact ylq hx h)
   have hB1:=zh hB.out
   clear hr hx hA l1 l2 l3 hu1 hu2 hBw HR
   go_wp2
   have hy1:=yaa (Below.refl wr.heap.size wr) (.cells #[.string x.path,.slice B1 x.dims.length u1,.slice B2 x.vars.length u2,.slice B3 x.attrs.length u3] 55)
   have hy0:(wr.alloc (.cells #[.string x.path,.slice B1 x.dims.length u1,.slice B2 x.vars.length u2,.slice B3 x.attrs.length u3] 55)).cell? ⟨wr.heap.size,0,none⟩=some (.string x.path):=by go_keep
   have hy3:wr.heap.size<(wr.alloc (.cells #[.string x.path,.slice B1 x.dims.length u1,.slice B2 x.vars.length u2,.slice B3 x.attrs.length u3] 55)).heap.size:=by simp
   generalize hwy:wr.alloc (.cells #[.string x.path,.slice B1 x.dims.length u1,.slice B2 x.vars.length u2,.slice B3 x.attrs.length u3] 55)=wy at *
   clear hwy e0 e1 e2 e3
   have HY:=zh (show Below w.heap.size w wy from hB1.out.trans (hy1.mono hB1.out.size))
   clear hB1 hB hy1
   generalize wr.heap.size=g8 at *
   have HY3:=zh (And.intro hy0 hy3)
   clear hy0 hy3
   go_loopw [22] (fun i wr=>∃ j:Nat,j<=x.vars.length/\i=.int .i64 (j:Int)/\Hid ((x.vars.take j).any (mentB (bl P) (bl N) x)=false)/\Hid (Below wy.heap.size wy wr)) (fun i _=>(x.vars.length - intOf i).toNat)
   case atStart=>exact⟨0,Nat.zero_le _,rfl,zh rfl,zh (Below.refl _ _)⟩
   case round=>
    obtain⟨j,hj,rfl,hC,hD⟩:=hrel
    by_cases hjp:j=x.vars.length
    ·have HF:=zh (HA2.out (by
      have h:=hC.out
      rw[hjp,List.take_of_length_le (Nat.le_refl _)] at h
      exact h))
     have b1:=zh (HY.out.trans (hD.out.mono HY.out.size))
     rw[hjp]
     clear HA2 HXn HL2 hC hD HV HK2 hjp hj HY HY3
     go_wp2
     go_roundw
     case rel=>exact⟨m+1,by omega,by go_num,HF,b1⟩
     case measure=>simp only[intOf];omega
    ·have hjlt:j<x.vars.length:=by omega
     have hji:(j:Int)<(x.vars.length:Int):=by omega
     obtain⟨v,hv⟩:∃ v,x.vars[j]?=some v:=⟨_,List.getElem?_eq_getElem hjlt⟩
     obtain⟨b2,off2,cs,rfl,hb2,_,hr,hp⟩:=HL2.out.get hv
     obtain⟨w1,w2,w3,w4,rfl,_,f1,f2,f3,d1,d2,d3,d4⟩:=hp
     obtain⟨D1,t1,rfl,_,_⟩:=d1.val
     obtain⟨D2,t2,rfl,_,_⟩:=d2.val
     obtain⟨D3,t3,rfl,_,_⟩:=d3.val
     obtain⟨D4,t4,rfl,_,_⟩:=d4.val
     have hBw:Below w.heap.size w wr:=HY.out.trans (hD.out.mono HY.out.size)
     have e0:wr.cell? ⟨b2,off2+j*8,none⟩=some (.string v.name):=(hBw.cell (p:=⟨b2,off2+j*8,none⟩) hb2).trans (hr 0 _ rfl)
     have e1:wr.cell? ⟨b2,off2+j*8+1,none⟩=some (.int .i64 v.typ):=(hBw.cell (p:=⟨b2,off2+j*8+1,none⟩) hb2).trans (hr 1 _ rfl)
     have e2:wr.cell? ⟨b2,off2+j*8+2,none⟩=some (.slice D1 v.dims.length t1):=(hBw.cell (p:=⟨b2,off2+j*8+2,none⟩) hb2).trans (hr 2 _ rfl)
     have e3:wr.cell? ⟨b2,off2+j*8+3,none⟩=some (.slice D2 v.chunks.length t2):=(hBw.cell (p:=⟨b2,off2+j*8+3,none⟩) hb2).trans (hr 3 _ rfl)
     have e4:wr.cell? ⟨b2,off2+j*8+4,none⟩=some (.string v.fill):=(hBw.cell (p:=⟨b2,off2+j*8+4,none⟩) hb2).trans (hr 4 _ rfl)
     have e5:wr.cell? ⟨b2,off2+j*8+5,none⟩=some (.string v.unit):=(hBw.cell (p:=⟨b2,off2+j*8+5,none⟩) hb2).trans (hr 5 _ rfl)
     have e6:wr.cell? ⟨b2,off2+j*8+6,none⟩=some (.slice D3 v.stages.length t3):=(hBw.cell (p:=⟨b2,off2+j*8+6,none⟩) hb2).trans (hr 6 _ rfl)
     have e7:wr.cell? ⟨b2,off2+j*8+7,none⟩=some (.slice D4 v.attrs.length t4):=(hBw.cell (p:=⟨b2,off2+j*8+7,none⟩) hb2).trans (hr 7 _ rfl)
     have y0:wr.cell? ⟨g8,0,none⟩=some (.string x.path):=(hD.out.cell (p:=⟨g8,0,none⟩) HY3.out.2).trans HY3.out.1
     have x2:wr.cell? ⟨X,2,none⟩=some (.string P):=(hBw.cell (p:=⟨X,2,none⟩) hXl).trans HK2.out
     have BE:=fun w'=>yom x.path P hP w'
     have CO0:=fun w5 (hb:Below w.heap.size w w5)=>yd1 N ((VL.keeps yav d1 hb).lifts yao hb.size)
     have HGo:=zh (show mentB (bl P) (bl N) x v=false->(x.vars.take (j+1)).any (mentB (bl P) (bl N) x)=false from fun h=>by rw[ye2 hv,hC.out,h];rfl)
     have HNo:=zh (show mentB (bl P) (bl N) x v=true->R=true from fun h=>HXn.out (ylq hv h))
     have HD:=zh hD.out
     have HBw:=zh hBw
     clear hr hv d1 d2 d3 d4 f1 f2 f3 HXn HA2 HL2 hC HV hD HY HY3 HK2 hBw
     go_wp2_with fail
     have hw1:=yaa (Below.refl wr.heap.size wr) (.cells #[.string v.name,.int .i64 v.typ,.slice D1 v.dims.length t1,.slice D2 v.chunks.length t2,.string v.fill,.string v.unit,.slice D3 v.stages.length t3,.slice D4 v.attrs.length t4] 41)
     have hy0z:(wr.alloc (.cells #[.string v.name,.int .i64 v.typ,.slice D1 v.dims.length t1,.slice D2 v.chunks.length t2,.string v.fill,.string v.unit,.slice D3 v.stages.length t3,.slice D4 v.attrs.length t4] 41)).drew.cell? ⟨g8,0,none⟩=some (.string x.path):=by go_keep
     have hx2z:(wr.alloc (.cells #[.string v.name,.int .i64 v.typ,.slice D1 v.dims.length t1,.slice D2 v.chunks.length t2,.string v.fill,.string v.unit,.slice D3 v.stages.length t3,.slice D4 v.attrs.length t4] 41)).drew.cell? ⟨X,2,none⟩=some (.string P):=by go_keep
     have hv2z:(wr.alloc (.cells #[.string v.name,.int .i64 v.typ,.slice D1 v.dims.length t1,.slice D2 v.chunks.length t2,.string v.fill,.string v.unit,.slice D3 v.stages.length t3,.slice D4 v.attrs.length t4] 41)).drew.cell? ⟨wr.heap.size,2,none⟩=some (.slice D1 v.dims.length t1):=by go_keep
     generalize hwz:wr.alloc (.cells #[.string v.name,.int .i64 v.typ,.slice D1 v.dims.length t1,.slice D2 v.chunks.length t2,.string v.fill,.string v.unit,.slice D3 v.stages.length t3,.slice D4 v.attrs.length t4] 41)=wz at *
     clear hwz e0 e1 e2 e3 e4 e5 e6 e7 y0 x2
     have HZ:=zh (show Below wy.heap.size wy wz from HD.out.trans (hw1.mono HD.out.size))
     have HZw:=zh (show Below w.heap.size w wz from HBw.out.trans (hw1.mono HBw.out.size))
     have CO:=fun w5 (hb:Below wz.heap.size wz w5)=>CO0 w5 (HZw.out.trans (hb.mono HZw.out.size))
     clear hw1 HD HBw CO0
     generalize wr.heap.size=g9 at *
     cases hbe:belowB (bl x.path) (bl P)
     ·have hmb:mentB (bl P) (bl N) x v=false:=by unfold mentB;rw[hbe];rfl
      have HG:=zh (HGo.out hmb)
      rw[hbe] at BE
      clear HGo HNo hmb hbe CO
      refine wp_region_noPanic ?_
      refine wp_region_held_drew (S:=fun w'=>(w'.cell? ⟨g8,0,none⟩=some (.string x.path)/\w'.cell? ⟨X,2,none⟩=some (.string P)/\w'.cell? ⟨g9,2,none⟩=some (.slice D1 v.dims.length t1))/\Below wz.heap.size wz w') (by kernel_rfl) ⟨⟨hy0z,hx2z,hv2z⟩,Below.drew (Below.refl _ _)⟩ (fun hHeld=>?_)
      refine tVal 0 26 (.pointer (some ⟨g8,0,none⟩)) hHeld (by kernel_rfl) (fun w' hSw=>?_) ?_
      ·simp only[List.getElem?_toArray,List.getElem?_cons_zero,Option.map_some,Option.some.injEq];first|(go_simp;done)|(with_reducible rfl)|(go_simp;omega)|(go_simp;go_show;fail)
      simp only[Act.put,zB,zC,zD]
      refine tVal 1 27 (.string x.path) hHeld (by kernel_rfl) (fun w' hSw=>?_) ?_
      ·obtain⟨⟨q1,q2,q3⟩,q4⟩:=hSw;simp only[zE,zF,zG,zH,zI];first|(go_simp;done)|(with_reducible rfl)|(go_simp;omega)
      simp only[Act.put,zB,zC,zD]
      refine tRun [(2,28,some (.pointer (some ⟨X,0,none⟩)))] hHeld (by kernel_rfl) ?_
      simp only[runA,Act.put,zB,zC,zD]
      refine tVal 3 29 (.pointer (some ⟨X,0,none⟩)) hHeld (by kernel_rfl) (fun w' hSw=>?_) ?_
      ·simp only[zE,zF,zG,zH,zI];first|(go_simp;done)|(with_reducible rfl)|(go_simp;omega)
      simp only[Act.put,zB,zC,zD]
      refine tVal 4 30 (.pointer (some ⟨X,1,none⟩)) hHeld (by kernel_rfl) (fun w' hSw=>?_) ?_
      ·simp only[zE,zF,zG,zH,zI];first|(go_simp;done)|(with_reducible rfl)|(go_simp;omega)
      simp only[Act.put,zB,zC,zD]
      refine tVal 5 31 (.pointer (some ⟨X,2,none⟩)) hHeld (by kernel_rfl) (fun w' hSw=>?_) ?_
      ·simp only[zE,zF,zG,zH,zI];first|(go_simp;done)|(with_reducible rfl)|(go_simp;omega)
      simp only[Act.put,zB,zC,zD]
      refine tVal 6 32 (.string P) hHeld (by kernel_rfl) (fun w' hSw=>?_) ?_
      ·obtain⟨⟨q1,q2,q3⟩,q4⟩:=hSw;simp only[zE,zF,zG,zH,zI];first|(go_simp;done)|(with_reducible rfl)|(go_simp;omega)
      simp only[Act.put,zB,zC,zD]
      refine tEnter 7 33 60 #[.string x.path,.string P] (by kernel_rfl) (by kernel_rfl) (by kernel_rfl) (BE _) ?_
      rintro e w1 ⟨rfl,rfl⟩
      refine⟨_,rfl,hHeld,fun hHeld=>?_⟩
      simp only[Act.put,zB,zC,zD]
      refine tRun ((8,34,some (.bool false))::(noR 9 35 4 [(13,39,some (.bool false))])) hHeld (by kernel_rfl) ?_
      simp only[runA,noR,Act.put,zB,zC,zD]
      refine wpAnyH_done (by kernel_rfl) (tNoP ?_) _
      have bz:=zh hHeld.2
      clear hHeld
      go_wp2
      go_roundw
      case rel=>exact⟨j+1,by omega,by go_num,HG,zh (HZ.out.trans (bz.out.mono HZ.out.size))⟩
      case measure=>simp only[intOf];omega
     ·rw[hbe] at BE
      by_cases hq:bl N ∈ v.dims.map bl
      ·have hX:=HNo.out (show mentB (bl P) (bl N) x v=true by unfold mentB;rw[hbe,decide_eq_true hq];rfl)
       subst hX
       rw[decide_eq_true hq] at CO
       clear HGo HNo hbe hq
       refine wp_region_noPanic ?_
       refine wp_region_held_drew (S:=fun w'=>(w'.cell? ⟨g8,0,none⟩=some (.string x.path)/\w'.cell? ⟨X,2,none⟩=some (.string P)/\w'.cell? ⟨g9,2,none⟩=some (.slice D1 v.dims.length t1))/\Below wz.heap.size wz w') (by kernel_rfl) ⟨⟨hy0z,hx2z,hv2z⟩,Below.drew (Below.refl _ _)⟩ (fun hHeld=>?_)
       refine tVal 0 26 (.pointer (some ⟨g8,0,none⟩)) hHeld (by kernel_rfl) (fun w' hSw=>?_) ?_
       ·simp only[List.getElem?_toArray,List.getElem?_cons_zero,Option.map_some,Option.some.injEq];first|(go_simp;done)|(with_reducible rfl)|(go_simp;omega)|(go_simp;go_show;fail)
       simp only[Act.put,zB,zC,zD]
       refine tVal 1 27 (.string x.path) hHeld (by kernel_rfl) (fun w' hSw=>?_) ?_
       ·obtain⟨⟨q1,q2,q3⟩,q4⟩:=hSw;simp only[zE,zF,zG,zH,zI];first|(go_simp;done)|(with_reducible rfl)|(go_simp;omega)
       simp only[Act.put,zB,zC,zD]
       refine tRun [(2,28,some (.pointer (some ⟨X,0,none⟩)))] hHeld (by kernel_rfl) ?_
       simp only[runA,Act.put,zB,zC,zD]
       refine tVal 3 29 (.pointer (some ⟨X,0,none⟩)) hHeld (by kernel_rfl) (fun w' hSw=>?_) ?_
       ·simp only[zE,zF,zG,zH,zI];first|(go_simp;done)|(with_reducible rfl)|(go_simp;omega)
       simp only[Act.put,zB,zC,zD]
       refine tVal 4 30 (.pointer (some ⟨X,1,none⟩)) hHeld (by kernel_rfl) (fun w' hSw=>?_) ?_
       ·simp only[zE,zF,zG,zH,zI];first|(go_simp;done)|(with_reducible rfl)|(go_simp;omega)
       simp only[Act.put,zB,zC,zD]
       refine tVal 5 31 (.pointer (some ⟨X,2,none⟩)) hHeld (by kernel_rfl) (fun w' hSw=>?_) ?_
       ·simp only[zE,zF,zG,zH,zI];first|(go_simp;done)|(with_reducible rfl)|(go_simp;omega)
       simp only[Act.put,zB,zC,zD]
       refine tVal 6 32 (.string P) hHeld (by kernel_rfl) (fun w' hSw=>?_) ?_
       ·obtain⟨⟨q1,q2,q3⟩,q4⟩:=hSw;simp only[zE,zF,zG,zH,zI];first|(go_simp;done)|(with_reducible rfl)|(go_simp;omega)
       simp only[Act.put,zB,zC,zD]
       refine tEnter 7 33 60 #[.string x.path,.string P] (by kernel_rfl) (by kernel_rfl) (by kernel_rfl) (BE _) ?_
       rintro e w1 ⟨rfl,rfl⟩
       refine⟨_,rfl,hHeld,fun hHeld=>?_⟩
       simp only[Act.put,zB,zC,zD]
       refine tRun [(8,34,some (.bool true))] hHeld (by kernel_rfl) ?_
       simp only[runA,Act.put,zB,zC,zD]
       refine tVal 9 35 (.pointer (some ⟨g9,2,none⟩)) hHeld (by kernel_rfl) (fun w' hSw=>?_) ?_
       ·simp only[zE,zF,zG,zH,zI];first|(go_simp;done)|(with_reducible rfl)|(go_simp;omega)
       simp only[Act.put,zB,zC,zD]
       refine tVal 10 36 (.slice D1 v.dims.length t1) hHeld (by kernel_rfl) (fun w' hSw=>?_) ?_
       ·obtain⟨⟨q1,q2,q3⟩,q4⟩:=hSw;simp only[zE,zF,zG,zH,zI];first|(go_simp;done)|(with_reducible rfl)|(go_simp;omega)
       simp only[Act.put,zB,zC,zD]
       refine tRun [(11,37,some (.string N))] hHeld (by kernel_rfl) ?_
       simp only[runA,Act.put,zB,zC,zD]
       refine tEnter 12 38 81 #[.slice D1 v.dims.length t1,.string N] (by kernel_rfl) (by kernel_rfl) (by kernel_rfl) (CO _ hHeld.2) ?_
       rintro e w2 ⟨rfl,rfl⟩
       refine⟨_,rfl,hHeld,fun hHeld=>?_⟩
       simp only[Act.put,zB,zC,zD]
       refine tRun [(13,39,some (.bool true))] hHeld (by kernel_rfl) ?_
       simp only[runA,Act.put,zB,zC,zD]
       refine wpAnyH_done (by kernel_rfl) (tNoP ?_) _
       have bz:=zh hHeld.2
       clear hHeld
       go_wp2
       go_ret
       exact⟨rfl,HZw.out.trans (bz.out.mono HZw.out.size)⟩
      ·have HG:=zh (HGo.out (show mentB (bl P) (bl N) x v=false by unfold mentB;rw[hbe,decide_eq_false hq];rfl))
       rw[decide_eq_false hq] at CO
       clear HGo HNo hbe hq
       refine wp_region_noPanic ?_
       refine wp_region_held_drew (S:=fun w'=>(w'.cell? ⟨g8,0,none⟩=some (.string x.path)/\w'.cell? ⟨X,2,none⟩=some (.string P)/\w'.cell? ⟨g9,2,none⟩=some (.slice D1 v.dims.length t1))/\Below wz.heap.size wz w') (by kernel_rfl) ⟨⟨hy0z,hx2z,hv2z⟩,Below.drew (Below.refl _ _)⟩ (fun hHeld=>?_)
       refine tVal 0 26 (.pointer (some ⟨g8,0,none⟩)) hHeld (by kernel_rfl) (fun w' hSw=>?_) ?_
       ·simp only[List.getElem?_toArray,List.getElem?_cons_zero,Option.map_some,Option.some.injEq];first|(go_simp;done)|(with_reducible rfl)|(go_simp;omega)|(go_simp;go_show;fail)
       simp only[Act.put,zB,zC,zD]
       refine tVal 1 27 (.string x.path) hHeld (by kernel_rfl) (fun w' hSw=>?_) ?_
       ·obtain⟨⟨q1,q2,q3⟩,q4⟩:=hSw;simp only[zE,zF,zG,zH,zI];first|(go_simp;done)|(with_reducible rfl)|(go_simp;omega)
       simp only[Act.put,zB,zC,zD]
       refine tRun [(2,28,some (.pointer (some ⟨X,0,none⟩)))] hHeld (by kernel_rfl) ?_
       simp only[runA,Act.put,zB,zC,zD]
       refine tVal 3 29 (.pointer (some ⟨X,0,none⟩)) hHeld (by kernel_rfl) (fun w' hSw=>?_) ?_
       ·simp only[zE,zF,zG,zH,zI];first|(go_simp;done)|(with_reducible rfl)|(go_simp;omega)
       simp only[Act.put,zB,zC,zD]
       refine tVal 4 30 (.pointer (some ⟨X,1,none⟩)) hHeld (by kernel_rfl) (fun w' hSw=>?_) ?_
       ·simp only[zE,zF,zG,zH,zI];first|(go_simp;done)|(with_reducible rfl)|(go_simp;omega)
       simp only[Act.put,zB,zC,zD]
       refine tVal 5 31 (.pointer (some ⟨X,2,none⟩)) hHeld (by kernel_rfl) (fun w' hSw=>?_) ?_
       ·simp only[zE,zF,zG,zH,zI];first|(go_simp;done)|(with_reducible rfl)|(go_simp;omega)
       simp only[Act.put,zB,zC,zD]
       refine tVal 6 32 (.string P) hHeld (by kernel_rfl) (fun w' hSw=>?_) ?_
       ·obtain⟨⟨q1,q2,q3⟩,q4⟩:=hSw;simp only[zE,zF,zG,zH,zI];first|(go_simp;done)|(with_reducible rfl)|(go_simp;omega)
       simp only[Act.put,zB,zC,zD]
       refine tEnter 7 33 60 #[.string x.path,.string P] (by kernel_rfl) (by kernel_rfl) (by kernel_rfl) (BE _) ?_
       rintro e w1 ⟨rfl,rfl⟩
       refine⟨_,rfl,hHeld,fun hHeld=>?_⟩
       simp only[Act.put,zB,zC,zD]
       refine tRun [(8,34,some (.bool true))] hHeld (by kernel_rfl) ?_
       simp only[runA,Act.put,zB,zC,zD]
       refine tVal 9 35 (.pointer (some ⟨g9,2,none⟩)) hHeld (by kernel_rfl) (fun w' hSw=>?_) ?_
       ·simp only[zE,zF,zG,zH,zI];first|(go_simp;done)|(with_reducible rfl)|(go_simp;omega)
       simp only[Act.put,zB,zC,zD]
       refine tVal 10 36 (.slice D1 v.dims.length t1) hHeld (by kernel_rfl) (fun w' hSw=>?_) ?_
       ·obtain⟨⟨q1,q2,q3⟩,q4⟩:=hSw;simp only[zE,zF,zG,zH,zI];first|(go_simp;done)|(with_reducible rfl)|(go_simp;omega)
       simp only[Act.put,zB,zC,zD]
       refine tRun [(11,37,some (.string N))] hHeld (by kernel_rfl) ?_
       simp only[runA,Act.put,zB,zC,zD]
       refine tEnter 12 38 81 #[.slice D1 v.dims.length t1,.string N] (by kernel_rfl) (by kernel_rfl) (by kernel_rfl) (CO _ hHeld.2) ?_
       rintro e w2 ⟨rfl,rfl⟩
       refine⟨_,rfl,hHeld,fun hHeld=>?_⟩
       simp only[Act.put,zB,zC,zD]
       refine tRun [(13,39,some (.bool false))] hHeld (by kernel_rfl) ?_
       simp only[runA,Act.put,zB,zC,zD]
       refine wpAnyH_done (by kernel_rfl) (tNoP ?_) _
       have bz:=zh hHeld.2
       clear hHeld
       go_wp2
       go_roundw
       case rel=>exact⟨j+1,by omega,by go_num,HG,zh (HZ.out.trans (bz.out.mono HZ.out.size))⟩
       case measure=>simp only[intOf];omega
structure El (α:Type) where
 vs:List Value
 F:Nat->Prop
 x:α
def DL {α:Type} (P:RdO α) (m:Nat) (t:TypeId) (w:World) (F:Nat->Prop) (v:Value) (L:List (El α)):Prop:=
 w.ownsRow 0 t m v L.length (L.map (·.vs)).flatten/\(∀ g,v.ownBlock=some g->F g/\∀ e ∈ L,¬e.F g)/\L.Pairwise (fun a b=>∀ k,a.F k->¬b.F k)/\(∀ e ∈ L,∀ b,e.F b->F b)/\(∀ b,F b->b<w.heap.size)/\∀ e ∈ L,e.vs.length=m/\P w e.F e.vs e.x
theorem DO.list {α:Type} {P:RdO α} {m:Nat} {t:TypeId} {w:World} {F:Nat->Prop} {v:Value} {xs:List α} (h:DO P m t w F v xs):∃ L:List (El α),L.map (·.x)=xs/\DL P m t w F v L:=by
 obtain⟨rows,Fs,h1,h2,h3,h4,h5,h6⟩:=h
 obtain⟨L,l1,l2⟩:∃ L:List (El α),L.length=xs.length/\∀ (k:Nat) (hk:k<L.length),(rows[k]?=some L[k].vs/\xs[k]?=some L[k].x)/\L[k].F=Fs k:=by
  refine⟨(List.range xs.length).pmap (fun k hk=>⟨rows[k]'(by rw[h1];exact hk),Fs k,xs[k]⟩) (fun k hk=>List.mem_range.1 hk),by simp,fun k hk=>?_⟩
  have hk':k<xs.length:=by simpa using hk
  refine⟨⟨?_,?_⟩,?_⟩
  ·rw[List.getElem_pmap];simp only[List.getElem_range];exact List.getElem?_eq_getElem _
  ·rw[List.getElem_pmap];simp only[List.getElem_range];exact List.getElem?_eq_getElem _
  ·rw[List.getElem_pmap];simp only[List.getElem_range]
 have e1:L.map (·.x)=xs:=by
  apply List.ext_getElem?
  intro k
  rw[List.getElem?_map]
  by_cases hk:k<L.length
  ·rw[(l2 k hk).1.2,List.getElem?_eq_getElem hk];rfl
  ·rw[List.getElem?_eq_none (by omega),List.getElem?_eq_none (by omega)];rfl
 have e2:L.map (·.vs)=rows:=by
  apply List.ext_getElem?
  intro k
  rw[List.getElem?_map]
  by_cases hk:k<L.length
  ·rw[(l2 k hk).1.1,List.getElem?_eq_getElem hk];rfl
  ·rw[List.getElem?_eq_none (by omega),List.getElem?_eq_none (by omega)];rfl
 have at_:∀ e ∈ L,∃ k,∃ hk:k<L.length,L[k]=e:=fun e he=>by
  obtain⟨k,hk,h⟩:=List.mem_iff_getElem.1 he
  exact⟨k,hk,h⟩
 refine⟨L,e1,by rw[e2,l1];exact h2,fun g hg=>⟨(h3 g hg).1,fun e he=>?_⟩,?_,fun e he b hb=>?_,h5,fun e he=>?_⟩
 ·obtain⟨k,hk,rfl⟩:=at_ e he
  rw[(l2 k hk).2]
  exact(h3 g hg).2 k
 ·rw[List.pairwise_iff_getElem]
  intro i j hi hj hij b hb hc
  rw[(l2 i hi).2] at hb
  rw[(l2 j hj).2] at hc
  have:=h4.1 i j b hb hc
  omega
 ·obtain⟨k,hk,rfl⟩:=at_ e he
  rw[(l2 k hk).2] at hb
  exact h4.2 k b hb
 ·obtain⟨k,hk,rfl⟩:=at_ e he
  obtain⟨vs,g1,g2,g3⟩:=h6 k _ (l2 k hk).1.2
  rw[(l2 k hk).1.1] at g1
  injection g1 with g1
  rw[g1,(l2 k hk).2]
  exact⟨g2,g3⟩
theorem DL.do {α:Type} {P:RdO α} {m:Nat} {t:TypeId} {w:World} {F:Nat->Prop} {v:Value} {L:List (El α)} (h:DL P m t w F v L):DO P m t w F v (L.map (·.x)):=by
 obtain⟨h1,h2,h3,h4,h5,h6⟩:=h
 refine⟨L.map (·.vs),fun k b=>∃ e,L[k]?=some e/\e.F b,by simp,by rw[List.length_map];exact h1,fun g hg=>⟨(h2 g hg).1,fun k ⟨e,he,hb⟩=>(h2 g hg).2 e (List.mem_of_getElem? he) hb⟩,⟨fun j k b ⟨e,he,hb⟩ ⟨e',he',hb'⟩=>?_,fun k b ⟨e,he,hb⟩=>h4 e (List.mem_of_getElem? he) b hb⟩,h5,fun k x hx=>?_⟩
 ·rw[List.pairwise_iff_getElem] at h3
  obtain⟨hj,rfl⟩:=List.getElem?_eq_some_iff.1 he
  obtain⟨hk,rfl⟩:=List.getElem?_eq_some_iff.1 he'
  rcases Nat.lt_trichotomy j k with hlt|rfl|hlt
  ·exact absurd hb' (h3 j k hj hk hlt b hb)
  ·rfl
  ·exact absurd hb (h3 k j hk hj hlt b hb')
 ·rw[List.getElem?_map] at hx
  cases he:L[k]? with
  | none=>rw[he] at hx;cases hx
  | some e=>
   rw[he] at hx
   injection hx with hx
   obtain⟨g1,g2⟩:=h6 e (List.mem_of_getElem? he)
   refine⟨e.vs,by rw[List.getElem?_map,he];rfl,g1,?_⟩
   have e1:(fun b=>∃ e',L[k]?=some e'/\e'.F b)=e.F:=by
    funext b
    rw[he]
    simp
   show P w (fun b=>∃ e',L[k]?=some e'/\e'.F b) e.vs x
   rw[e1,<- hx]
   exact g2
def Turn (w w':World) (o:Option Nat):Prop:=w.heap.size<=w'.heap.size/\∀ b,b<w.heap.size->o≠some b->w'.heap[b]?=w.heap[b]?
theorem Turn.of {w w':World} {o:Option Nat} (h:w.grownBy w' o):Turn w w' o:=⟨h.size,fun b hb he=>h.block b hb (fun e=>he e.symm)⟩
theorem DL.elt {α:Type} {P:RdO α} {m:Nat} {t:TypeId} {w:World} {F:Nat->Prop} {v:Value} {L:List (El α)} (h:DL P m t w F v L) (hP:Lcl P) {w':World} (hw:Turn w w' v.ownBlock):∀ e ∈ L,e.vs.length=m/\P w' e.F e.vs e.x:=by
 obtain⟨h1,h2,h3,h4,h5,h6⟩:=h
 intro e he
 refine⟨(h6 e he).1,hP.1 _ _ _ _ _ (h6 e he).2 fun b hb=>hw.2 b (h5 b (h4 e he b hb)) fun ho=>(h2 b ho).2 e he hb⟩
theorem DL.ins {α:Type} {P:RdO α} (hP:Lcl P) {m:Nat} {t:TypeId} {w w':World} {F:Nat->Prop} {v v':Value} {A B:List (El α)} {e:El α} (h:DL P m t w F v (A++B)) (hw:Turn w w' v.ownBlock) (ho:w'.ownsRow 0 t m v' (A++e::B).length ((A++e::B).map (·.vs)).flatten)
  (hb:v'.ownBlock=v.ownBlock\/v'.ownBlock=some w.heap.size) (hl:e.vs.length=m) (hx:P w e.F e.vs e.x) (hd:∀ b,e.F b->¬F b):DL P m t w' (fun b=>(F b\/e.F b)\/(w.heap.size<=b/\b<w'.heap.size)) v' (A++e::B):=by
 have he:=h.elt hP hw
 have hxl:=hP.2 _ _ _ _ hx
 have hx':P w' e.F e.vs e.x:=hP.1 _ _ _ _ _ hx fun b hb=>hw.2 b (hxl b hb) fun ho=>hd b hb (h.2.1 b ho).1
 obtain⟨h1,h2,h3,h4,h5,h6⟩:=h
 have mem:∀ a ∈ A++e::B,a=e\/a ∈ A++B:=fun a ha=>by
  rw[List.mem_append,List.mem_cons] at ha
  rw[List.mem_append]
  rcases ha with h|h|h
  ·exact .inr (.inl h)
  ·exact .inl h
  ·exact .inr (.inr h)
 refine⟨ho,fun g hg=>?_,?_,fun a ha b hb=>?_,fun b hb=>?_,fun a ha=>?_⟩
 ·rcases hb with hb|hb
  ·rw[hb] at hg
   refine⟨.inl (.inl (h2 g hg).1),fun a ha=>?_⟩
   rcases mem a ha with rfl|ha
   ·exact fun hh=>hd g hh (h2 g hg).1
   ·exact(h2 g hg).2 a ha
  ·have hlt:=(yeq ho hg).2
   rw[hb] at hg
   injection hg with hg
   subst hg
   refine⟨.inr ⟨Nat.le_refl _,hlt⟩,fun a ha hh=>?_⟩
   rcases mem a ha with rfl|ha
   ·exact absurd (hxl _ hh) (Nat.lt_irrefl _)
   ·exact absurd (h5 _ (h4 a ha _ hh)) (Nat.lt_irrefl _)
 ·rw[List.pairwise_append] at h3 ⊢
  obtain⟨p1,p2,p3⟩:=h3
  refine⟨p1,?_,fun a ha c hc k hk hk'=>?_⟩
  ·rw[List.pairwise_cons]
   exact⟨fun c hc k hk hk'=>hd k hk (h4 c (List.mem_append.2 (.inr hc)) k hk'),p2⟩
  ·rcases List.mem_cons.1 hc with rfl|hc
   ·exact hd k hk' (h4 a (List.mem_append.2 (.inl ha)) k hk)
   ·exact p3 a ha c hc k hk hk'
 ·rcases mem a ha with rfl|ha
  ·exact .inl (.inr hb)
  ·exact .inl (.inl (h4 a ha b hb))
 ·rcases hb with (hb|hb)|hb
  ·exact Nat.lt_of_lt_of_le (h5 b hb) hw.1
  ·exact Nat.lt_of_lt_of_le (hxl b hb) hw.1
  ·exact hb.2
 ·rcases mem a ha with rfl|ha
  ·exact⟨hl,hx'⟩
  ·exact he a ha
theorem DL.set {α:Type} {P:RdO α} (hP:Lcl P) {m:Nat} {t:TypeId} {w w':World} {F:Nat->Prop} {v:Value} {L:List (El α)} {k:Nat} {e e':El α} (h:DL P m t w F v L) (hk:L[k]?=some e)
  (hz:w.heap.size<=w'.heap.size) (hw:∀ b,b<w.heap.size->¬e.F b->v.ownBlock≠some b->w'.heap[b]?=w.heap[b]?) (ho:w'.ownsRow 0 t m v L.length ((L.set k e').map (·.vs)).flatten)
  (hl:e'.vs.length=m) (hx:P w' e'.F e'.vs e'.x) (hd:∀ b,e'.F b->e.F b\/w.heap.size<=b):DL P m t w' (fun b=>F b\/(w.heap.size<=b/\b<w'.heap.size)) v (L.set k e'):=by
 obtain⟨h1,h2,h3,h4,h5,h6⟩:=h
 have hxl:=hP.2 _ _ _ _ hx
 have hm:=List.mem_of_getElem? hk
 obtain⟨hkl,hke⟩:=List.getElem?_eq_some_iff.1 hk
 have other:∀ j (hj:j<L.length),j≠k->∀ b,L[j].F b->¬e.F b:=fun j hj hjk b hb hh=>by
  rw[List.pairwise_iff_getElem] at h3
  rcases Nat.lt_or_ge j k with hlt|hge
  ·exact h3 j k hj hkl hlt b hb (by rw[hke];exact hh)
  ·exact h3 k j hkl hj (by omega) b (by rw[hke];exact hh) hb
 have mem:∀ a ∈ L.set k e',a=e'\/∃ j,∃ hj:j<L.length,j≠k/\L[j]=a:=fun a ha=>by
  obtain⟨j,hj,rfl⟩:=List.mem_iff_getElem.1 ha
  rw[List.length_set] at hj
  by_cases hjk:k=j
  ·subst hjk;exact .inl (List.getElem_set_self ..)
  ·exact .inr ⟨j,hj,fun e=>hjk e.symm,(List.getElem_set_ne hjk _).symm⟩
 refine⟨by rw[List.length_set];exact ho,fun g hg=>⟨.inl (h2 g hg).1,fun a ha hh=>?_⟩,?_,fun a ha b hb=>?_,fun b hb=>?_,fun a ha=>?_⟩
 ·rcases mem a ha with rfl|⟨j,hj,hjk,rfl⟩
  ·rcases hd g hh with hd|hd
   ·exact(h2 g hg).2 e hm hd
   ·have:=h5 g (h2 g hg).1;omega
  ·exact(h2 g hg).2 _ (List.getElem_mem hj) hh
 ·rw[List.pairwise_iff_getElem]
  intro i j hi hj hij b hb hc
  rw[List.length_set] at hi hj
  have key:∀ i j (hi:i<L.length) (hj:j<L.length),i≠j->∀ b,((L.set k e')[i]'(by rw[List.length_set];exact hi)).F b->k≠i->¬((L.set k e')[j]'(by rw[List.length_set];exact hj)).F b:=fun i j hi hj hij b hb hki hc=>by
   rw[List.getElem_set_ne hki] at hb
   by_cases hkj:k=j
   ·subst hkj
    rw[List.getElem_set_self] at hc
    rcases hd b hc with hd|hd
    ·exact other i hi (fun e=>hki e.symm) b hb hd
    ·have:=h5 b (h4 _ (List.getElem_mem hi) b hb);omega
   ·rw[List.getElem_set_ne hkj] at hc
    rw[List.pairwise_iff_getElem] at h3
    rcases Nat.lt_or_ge i j with hlt|hge
    ·exact h3 i j hi hj hlt b hb hc
    ·exact h3 j i hj hi (by omega) b hc hb
  by_cases hki:k=i
  ·exact key j i hj hi (by omega) b hc (by omega) hb
  ·exact key i j hi hj (by omega) b hb hki hc
 ·rcases mem a ha with rfl|⟨j,hj,hjk,rfl⟩
  ·rcases hd b hb with hd|hd
   ·exact .inl (h4 e hm b hd)
   ·exact .inr ⟨hd,hxl b hb⟩
  ·exact .inl (h4 _ (List.getElem_mem hj) b hb)
 ·rcases hb with hb|hb
  ·exact Nat.lt_of_lt_of_le (h5 b hb) hz
  ·exact hb.2
 ·rcases mem a ha with rfl|⟨j,hj,hjk,rfl⟩
  ·exact⟨hl,hx⟩
  ·have hmj:=List.getElem_mem hj
   exact⟨(h6 _ hmj).1,hP.1 _ _ _ _ _ (h6 _ hmj).2 fun b hb=>hw b (h5 b (h4 _ hmj b hb)) (other j hj hjk b hb) fun ho=>(h2 b ho).2 _ hmj hb⟩
def OnesO {α:Type} (P:RdO α):Prop:=∀ (w:World) (F:Nat->Prop) (vs:List Value) (x:α),P w F vs x->∀ u ∈ vs,u.oneCell'=true
theorem ylk {m:Nat}:∀ (rows:List (List Value)) (k:Nat),(∀ r ∈ rows,r.length=m)->rows.flatten.take (k*m)=(rows.take k).flatten/\rows.flatten.drop (k*m)=(rows.drop k).flatten
 | [],k,_=>by simp
 | a::rows,0,_=>by simp
 | a::rows,k+1,h=>by
  have ha:=h a List.mem_cons_self
  obtain⟨h1,h2⟩:=ylk rows k (fun r hr=>h r (List.mem_cons_of_mem _ hr))
  have e:(k+1)*m=a.length+k*m:=by rw[ha,Nat.add_mul];omega
  rw[e,List.flatten_cons,List.take_length_add_append,List.drop_length_add_append,h1,h2,List.take_succ_cons,List.drop_succ_cons,List.flatten_cons]
  exact⟨rfl,rfl⟩
theorem DL.ones {α:Type} {P:RdO α} (hO:OnesO P) {m:Nat} {t:TypeId} {w:World} {F:Nat->Prop} {v:Value} {L:List (El α)} (h:DL P m t w F v L):∀ u ∈ (L.map (·.vs)).flatten,u.oneCell'=true:=by
 intro u hu
 obtain⟨r,hr,hu⟩:=List.mem_flatten.1 hu
 obtain⟨e,he,rfl⟩:=List.mem_map.1 hr
 exact hO _ _ _ _ (h.2.2.2.2.2 e he).2 u hu
theorem DL.lens {α:Type} {P:RdO α} {m:Nat} {t:TypeId} {w:World} {F:Nat->Prop} {v:Value} {L:List (El α)} (h:DL P m t w F v L):∀ r ∈ L.map (·.vs),r.length=m:=by
 intro r hr
 obtain⟨e,he,rfl⟩:=List.mem_map.1 hr
 exact(h.2.2.2.2.2 e he).1
theorem DO.inserted {α:Type} {P:RdO α} (hP:Lcl P) (hO:OnesO P) {m:Nat} {t:TypeId} {w:World} {F:Nat->Prop} {v:Value} {xs:List α} (h:DO P m t w F v xs) {k:Nat} (hk:k<=xs.length) (e:El α) (hl:e.vs.length=m) (hx:P w e.F e.vs e.x) (hd:∀ b,e.F b->¬F b) :
  ∃ cs,w.ownsRow 0 t m v xs.length cs/\(∀ u ∈ cs,u.oneCell'=true)/\∀ w' v',w'.ownsRow 0 t m v' (xs.length+1) (cs.take (k*m)++e.vs++cs.drop (k*m))->w.grownBy w' v.ownBlock->(v'.ownBlock=v.ownBlock\/v'.ownBlock=some w.heap.size)->
   DO P m t w' (fun b=>(F b\/e.F b)\/(w.heap.size<=b/\b<w'.heap.size)) v' (xs.take k++e.x::xs.drop k):=by
 obtain⟨L,rfl,hL⟩:=h.list
 rw[List.length_map] at hk ⊢
 refine⟨(L.map (·.vs)).flatten,hL.1,hL.ones hO,fun w' v' ho hg hb=>?_⟩
 obtain⟨c1,c2⟩:=ylk (L.map (·.vs)) k hL.lens
 have hAB:DL P m t w F v (L.take k++L.drop k):=by rw[List.take_append_drop];exact hL
 have h2:=hAB.ins hP (Turn.of hg) (e:=e) (v':=v') (by
  rw[c1,c2] at ho
  have e1:(L.take k++e::L.drop k).length=L.length+1:=by simp;omega
  rw[e1,List.map_append,List.map_cons,List.flatten_append,List.flatten_cons,List.map_take,List.map_drop,<- List.append_assoc]
  exact ho) hb hl hx hd
 have h3:=h2.do
 rw[List.map_append,List.map_cons,List.map_take,List.map_drop] at h3
 exact h3
theorem ymd {α:Type} {P:Rd α} (h:Ones P):OnesO (flt P):=fun _ _ _ _ hx=>h _ _ _ _ hx.1
theorem DO.cut {α:Type} {P:RdO α} {m:Nat} {t:TypeId} {w:World} {F:Nat->Prop} {v:Value} {xs:List α} (h:DO P m t w F v xs):xs.length<=9223372036854775807:=by
 obtain⟨rows,Fs,_,h2,_⟩:=h
 rcases h2.2 with ⟨_,hn⟩|⟨g,cap,cur,_,_,_,hc,hm,_⟩
 ·omega
 ·unfold maxLen at hm;omega
theorem yjv (w:World) (F:Nat->Prop) (vs:List Value) (x:AttrD) (h:kAttrO w F vs x):kAttr w w.heap.size vs x:=by
 obtain⟨v,h1,h2,h3,h4,h5⟩:=h
 exact⟨v,h1,h2,h3,h4,h5.vl (fun _ _ _ _ h=>h.1) yao h5.cut⟩
theorem yrf (w:World) (F:Nat->Prop) (vs:List Value) (x:VarD) (h:kVarO w F vs x):kVar w w.heap.size vs x:=by
 obtain⟨v1,v2,v3,v4,Fs,h1,h2,h3,h4,h5,_,_,g1,g2,g3,g4⟩:=h
 exact⟨v1,v2,v3,v4,h1,h2,h3,h4,h5,g1.vl (fun _ _ _ _ h=>h.1) yao g1.cut,g2.vl (fun _ _ _ _ h=>h.1) ybg g2.cut,g3.vl (fun _ _ _ _ h=>h.1) ya5 g3.cut,g4.vl yjv yap g4.cut⟩
theorem yno (w:World) (F:Nat->Prop) (vs:List Value) (x:GroupD) (h:kGroupO w F vs x):kGroup w w.heap.size vs x:=by
 obtain⟨v1,v2,v3,Fs,h1,h2,_,_,g1,g2,g3⟩:=h
 exact⟨v1,v2,v3,h1,h2,g1.vl (fun _ _ _ _ h=>h.1) ya2 g1.cut,g2.vl yrf yb2 g2.cut,g3.vl yjv yap g3.cut⟩
theorem DO.schema {t:TypeId} {w:World} {F:Nat->Prop} {v:Value} {s:List GroupD} (h:DO kGroupO 4 t w F v s):VSchema w w.heap.size v s:=h.vl yno yai h.cut
theorem DO.field {α:Type} {P:RdO α} (hP:Lcl P) {m:Nat} {t:TypeId} {w:World} {F:Nat->Prop} {v:Value} {xs:List α} (h:DO P m t w F v xs) {k:Nat} {x:α} (hx:xs[k]?=some x) :
  ∃ G cap vs Fe,v=.slice (some ⟨G,0,none⟩) xs.length cap/\vs.length=m/\P w Fe vs x/\(F G/\G<w.heap.size)/\(∀ b,Fe b->F b/\b≠G)/\(∀ (j:Nat) u,vs[j]?=some u->w.cell? ⟨G,k*m+j,none⟩=some u/\w.frozen? ⟨G,k*m+j,none⟩=false)/\
   ∀ (w1:World) (j:Nat) (u:Value) (x':α) (Fe':Nat->Prop),j<m->w.heap.size<=w1.heap.size->(∀ b,b<w.heap.size->¬Fe b->w1.heap[b]?=w.heap[b]?)->P w1 Fe' (vs.set j u) x'->(∀ b,Fe' b->Fe b\/w.heap.size<=b)->
    DO P m t (w1.setCell ⟨G,k*m+j,none⟩ u) (fun b=>F b\/(w.heap.size<=b/\b<w1.heap.size)) v (xs.set k x'):=by
 obtain⟨L,rfl,hL⟩:=h.list
 rw[List.getElem?_map] at hx
 cases hk:L[k]? with
 | none=>rw[hk] at hx;cases hx
 | some e=>
  rw[hk] at hx
  injection hx with hx
  obtain⟨h1,h2,h3,h4,h5,h6⟩:=id hL
  have hm:=List.mem_of_getElem? hk
  have hkl:=(List.getElem?_eq_some_iff.1 hk).1
  obtain⟨G,cap,rfl⟩:∃ G cap,v=.slice (some ⟨G,0,none⟩) L.length cap:=by
   rcases h1.2 with ⟨_,hn⟩|⟨g,cap,cur,hv,_⟩
   ·omega
   ·exact⟨g,cap,hv⟩
  have hG:=h2 G rfl
  have hr:(L.map (·.vs))[k]?=some e.vs:=by rw[List.getElem?_map,hk];rfl
  have hP1:=(h6 e hm).2
  have hx:e.x=x:=hx
  rw[hx] at hP1
  refine⟨G,cap,e.vs,e.F,by rw[List.length_map],(h6 e hm).1,hP1,⟨hG.1,h5 G hG.1⟩,fun b hb=>⟨h4 e hm b hb,fun eq=>hG.2 e hm (eq▸hb)⟩,fun j u hj=>?_,fun w1 j u x' Fe' hj hz hw hx' hd=>?_⟩
  ·have hjm:j<m:=by rw[<- (h6 e hm).1];exact(List.getElem?_eq_some_iff.1 hj).1
   have hc:=yd7 h1 (j:=k*m+j) (u:=u) (by rw[yez hL.lens hr hjm];exact hj)
   exact⟨hc.1,hc.2.1⟩
  ·have hG1:=hw G (h5 G hG.1) (hG.2 e hm)
   have hz1:(w1.setCell ⟨G,k*m+j,none⟩ u).heap.size=w1.heap.size:=World.size_setCell ..
   have ho:=yg0 (yh3 h1 (w':=w1) fun g hg=>by injection hg with hg;rw[<- hg];exact hG1) (k*m+j) u
   rw[yf7 hL.lens hr hj] at ho
   have hFe:∀ b,Fe' b->b≠G:=fun b hb eq=>by
    rcases hd b hb with h|h
    ·exact hG.2 e hm (eq▸h)
    ·have:=h5 G hG.1;omega
   have hs:=hL.set hP hk (e':=⟨e.vs.set j u,Fe',x'⟩) (w':=w1.setCell ⟨G,k*m+j,none⟩ u) (by rw[hz1];exact hz) (fun b hb h8 h9=>(yae _ _ _ _ (fun eq=>h9 (by rw[eq];rfl))).trans (hw b hb h8)) (by
    rw[List.map_set]
    exact ho) (by rw[List.length_set];exact(h6 e hm).1) (hP.1 _ _ _ _ _ hx' fun b hb=>yae _ _ _ _ (hFe b hb)) hd
   have h7:=hs.do
   rw[List.map_set,hz1] at h7
   exact h7
theorem kGroupO.dims {w:World} {Fe:Nat->Prop} {vs:List Value} {x:GroupD} (h:kGroupO w Fe vs x):∃ v1 v2 v3 F1,vs=[.string x.path,v1,v2,v3]/\DO (flt kDim) 3 26 w F1 v1 x.dims/\(∀ b,F1 b->Fe b)/\∀ (w1:World) (v1':Value) (F1':Nat->Prop) (ds:List DimD),w.heap.size<=w1.heap.size->(∀ b,b<w.heap.size->¬F1 b->w1.heap[b]?=w.heap[b]?)->DO (flt kDim) 3 26 w1 F1' v1' ds->(∀ b,F1' b->F1 b\/w.heap.size<=b)->
  kGroupO w1 (fun b=>Fe b\/(w.heap.size<=b/\b<w1.heap.size)) [.string x.path,v1',v2,v3] ⟨x.path,ds,x.vars,x.attrs⟩:=by
 obtain⟨v1,v2,v3,Fs,h1,h2,h3,h4,h5,h6,h7⟩:=h
 refine⟨v1,v2,v3,Fs 0,h1,h5,h3.2 0,fun w1 v1' F1' ds hz hw hD hF=>?_⟩
 have other:∀ k,k≠0->∀ b,Fs k b->w1.heap[b]?=w.heap[b]?:=fun k hk b hb=>hw b (h4 b (h3.2 k b hb)) fun h0=>hk (h3.1 k 0 b hb h0)
 have hl:=hD.lt
 refine⟨v1',v2,v3,fun k b=>(k=0/\F1' b)\/(k≠0/\Fs k b),rfl,h2,⟨fun j k b a c=>?_,fun k b a=>?_⟩,fun b hb=>?_,?_,?_,?_⟩
 ·rcases a with ⟨j0,a⟩|⟨j0,a⟩<;>rcases c with ⟨k0,c⟩|⟨k0,c⟩
  ·rw[j0,k0]
  ·rcases hF b a with h|h
   ·exact absurd (h3.1 k 0 b c h) k0
   ·have:=h4 b (h3.2 k b c);omega
  ·rcases hF b c with h|h
   ·exact absurd (h3.1 j 0 b a h) j0
   ·have:=h4 b (h3.2 j b a);omega
  ·exact h3.1 j k b a c
 ·rcases a with ⟨_,a⟩|⟨_,a⟩
  ·rcases hF b a with h|h
   ·exact .inl (h3.2 0 b h)
   ·exact .inr ⟨h,hl b a⟩
  ·exact .inl (h3.2 k b a)
 ·rcases hb with hb|hb
  ·exact Nat.lt_of_lt_of_le (h4 b hb) hz
  ·exact hb.2
 ·exact hD.wide (fun b hb=>.inl ⟨rfl,hb⟩) fun b hb=>by
   rcases hb with ⟨_,hb⟩|⟨h,_⟩
   ·exact hl b hb
   ·exact absurd rfl h
 ·exact(h6.up ydy (other 1 (by decide))).wide (fun b hb=>.inr ⟨by decide,hb⟩) fun b hb=>by
   rcases hb with ⟨h,_⟩|⟨_,hb⟩
   ·cases h
   ·exact Nat.lt_of_lt_of_le (h4 b (h3.2 1 b hb)) hz
 ·exact(h7.up ybt (other 2 (by decide))).wide (fun b hb=>.inr ⟨by decide,hb⟩) fun b hb=>by
   rcases hb with ⟨h,_⟩|⟨_,hb⟩
   ·cases h
   ·exact Nat.lt_of_lt_of_le (h4 b (h3.2 2 b hb)) hz
theorem OL.dmB {α:Type} {P:RdO α} {Q:Rd α} {m:Nat} {t:TypeId} {base B:Nat} {w:World} {v:Value} {xs:List α} (h:OL Q m t base w B v xs) (hB:B<=base):DM P Q m t w (fun b=>base<=b/\b<w.heap.size) B v xs 0:=by
 obtain⟨rows,h1,h2,h3⟩:=h
 refine⟨rows,fun _ _=>False,h1,yea h3 hB,fun g hg=>⟨yeq h3 hg,fun _=>id⟩,⟨fun _ _ _ h=>h.elim,fun _ _ h=>h.elim⟩,fun b hb=>⟨Nat.le_trans hB hb.1,hb.2⟩,fun _ _ _=>id,fun k x hk=>?_⟩
 obtain⟨vs,e1,e2,e3⟩:=h2 k x hk
 exact⟨vs,e1,e2,by rw[if_neg (Nat.not_lt_zero _)];exact e3⟩
theorem DM.same {α:Type} {P:RdO α} {Q:Rd α} (hP:Lcl P) (hQ:Keeps Q) {m:Nat} {t:TypeId} {B i:Nat} {w w':World} {F:Nat->Prop} {v:Value} {xs:List α} (h:DM P Q m t w F B v xs i) (hw:∀ b,F b->w'.heap[b]?=w.heap[b]?) (hb:Below B w w'):DM P Q m t w' F B v xs i:=by
 obtain⟨rows,Fs,h1,h2,h3,h4,h5,h6,h7⟩:=h
 refine⟨rows,Fs,h1,yh3 h2 fun g hg=>hw g (h3 g hg).1,h3,h4,fun b hb'=>⟨(h5 b hb').1,ykw (fun b hb=>(h5 b hb).2) hw b hb'⟩,h6,fun k x hk=>?_⟩
 obtain⟨vs,e1,e2,e3⟩:=h7 k x hk
 refine⟨vs,e1,e2,?_⟩
 by_cases hki:k<i
 ·rw[if_pos hki] at e3 ⊢
  exact hP.1 _ _ _ _ _ e3 fun b hb'=>hw b (h4.2 k b hb')
 ·rw[if_neg hki] at e3 ⊢
  exact hQ _ _ _ _ _ e3 hb
theorem DM.own {α:Type} {P:RdO α} {Q:Rd α} {m:Nat} {t:TypeId} {B i g n c:Nat} {w:World} {F:Nat->Prop} {xs:List α} (h:DM P Q m t w F B (.slice (some ⟨g,0,none⟩) n c) xs i):F g:=by
 obtain⟨rows,Fs,h1,h2,h3,h4⟩:=h
 exact(h3 g rfl).1
def Parts (n0 n1 n2 n3:Nat) (FV:Nat->Prop):Nat->Nat->Prop:=fun k b=>match k with
 | 0=>n0<=b/\b<n1
 | 1=>FV b
 | 2=>n2<=b/\b<n3
 | _=>False
theorem Parts.seps {n0 n1 n2 n3:Nat} {FV:Nat->Prop} (_h1:n0<=n1) (h2:n1<=n2) (hV:∀ b,FV b->n1<=b/\(b<n2\/n3<=b)):Seps (fun b=>(n0<=b/\b<n1)\/FV b\/(n2<=b/\b<n3)) (Parts n0 n1 n2 n3 FV):=by
 refine⟨fun j k b a c=>?_,fun k b a=>?_⟩
 ·match j,k,a,c with
  | 0,0,_,_=>rfl
  | 1,1,_,_=>rfl
  | 2,2,_,_=>rfl
  | 0,1,a,c=>exact absurd a.2 (by have:=(hV b c).1;omega)
  | 0,2,a,c=>exact absurd a.2 (by have:=c.1;omega)
  | 1,0,a,c=>exact absurd c.2 (by have:=(hV b a).1;omega)
  | 1,2,a,c=>exact absurd (hV b a).2 (by have:=c.1;have:=c.2;omega)
  | 2,0,a,c=>exact absurd c.2 (by have:=a.1;omega)
  | 2,1,a,c=>exact absurd (hV b c).2 (by have:=a.1;have:=a.2;omega)
  | k+3,_,a,_=>exact a.elim
  | _,k+3,_,c=>exact c.elim
 ·match k,a with
  | 0,a=>exact .inl a
  | 1,a=>exact .inr (.inl a)
  | 2,a=>exact .inr (.inr a)
  | k+3,a=>exact a.elim
theorem yqi (v:Value) (s:List GroupD) (w:World) (hV:VSchema w w.heap.size v s) (hl:s.length<=1000000000) (hs:∀ g ∈ s,smallG g):Calls Tryz.prog 19 #[.agg #[v]] w fun e w'=>∃ A c,e=.returned (.agg #[.slice A s.length c])/\DO kGroupO 4 55 w' (fun b=>w.heap.size<=b/\b<w'.heap.size) (.slice A s.length c) s/\Below w.heap.size w w':=by
 obtain⟨A0,c0,rfl,_,_⟩:=hV.val
 have CG:=fun w2 (hb:Below w.heap.size w w2)=>yg7 _ _ w2 ((VL.keeps yah hV hb).lifts yai hb.size) (by omega)
 have CD:=fun v xs w h hl=>ykc v xs w h hl
 have CV:=fun v xs w B hB h hl=>yh6 v xs w B hB h hl
 have CA:=fun v xs w h hl hn=>yel v xs w h hl hn
 have CX:=fun x v1 v2 v3 v4 w h1 h2 h3 h4 ho hl=>yli x v1 v2 v3 v4 w h1 h2 h3 h4 ho hl
 have HS:=zh hs
 have hn9:(s.length:Int)<=9223372036854775807:=by omega
 clear hV hs
 go_enter Tryz.func19,Tryz.ntmps19
 go_wp2_with (go_at_call 52;(with_reducible refine(CG _ (by (repeat (first|exact zJ _ _|assumption|refine yab ?_ _|refine zL ?_|refine yac ?_ (by assumption)|refine yaa ?_ _|refine zO ?_ (by simp<;>omega) _|refine zP ?_ (by simp<;>omega) _)))).mono ?_);rintro e w1 ⟨v',rfl,ho,hb⟩;obtain⟨A,c,rfl⟩:=ho.val;have HO:=zh (And.intro ho hb);clear ho hb)
 obtain⟨wA,hwA⟩:∃ x,x=(w.alloc (.cells #[.slice A0 s.length c0] 24)).alloc (.cells #[.slice none 0 0] 24):=⟨_,rfl⟩
 have zA:wA.heap.size=w.heap.size+2:=by rw[hwA];simp
 have hbA:Below w.heap.size w wA:=by rw[hwA];(repeat (first|exact zJ _ _|assumption|refine yab ?_ _|refine zL ?_|refine yac ?_ (by assumption)|refine yaa ?_ _|refine zO ?_ (by simp<;>omega) _|refine zP ?_ (by simp<;>omega) _))
 have hRA:Bk wA (w.heap.size+1) #[.slice none 0 0] 24:=by
  have h:=Bk.new (w.alloc (.cells #[.slice A0 s.length c0] 24)) #[.slice none 0 0] 24
  rw[World.size_alloc,<- hwA] at h
  exact h
 have HO2:=HO.out
 rw[<- hwA] at HO2
 have M0:=(OL.dm (P:=kGroupO) HO2.1).up ya0 yah ((Below.refl _ w1).alloc (Nat.le_refl _) (.cells #[(.slice A s.length c)] 24)) HO2.2.size
 obtain⟨T,hT⟩:∃ T,T=w1.heap.size:=⟨_,rfl⟩
 have hTb:Bk (w1.alloc (.cells #[(.slice A s.length c)] 24)) T #[(.slice A s.length c)] 24:=by rw[hT];exact Bk.new w1 _ _
 have z1:=HO2.2.size
 have I0:(fun (wr:World) (k:Nat)=>∃ F:Nat->Prop,DM kGroupO kGroup 4 55 wr F (w.heap.size+2) (.slice A s.length c) s k/\¬F T/\Bk wr T #[(.slice A s.length c)] 24/\Bk wr (w.heap.size+1) #[.slice none 0 0] 24/\Below w.heap.size w wr/\T<wr.heap.size/\w.heap.size+2<=T) (w1.alloc (.cells #[(.slice A s.length c)] 24)) 0:=by
  refine⟨_,by rw[zA] at M0;exact M0,fun h=>by have h2:=h.2;omega,hTb,?_,?_,hTb.lt,by omega⟩
  ·exact Bk.alloc (hRA.up HO2.2)
  ·exact(hbA.trans (HO2.2.mono hbA.size)).alloc (by have:=hbA.size;omega) _
 have HI:=zh I0
 rw[<- hT]
 clear hwA zA hbA hRA HO HO2 M0 hTb z1 I0 CG hT wA
 generalize w1.alloc (.cells #[(.slice A s.length c)] 24)=w2 at *
 go_loopw [15] (fun i wr=>∃ k:Nat,k<=s.length/\i=.int .i64 (k:Int)/\Hid (∃ F:Nat->Prop,DM kGroupO kGroup 4 55 wr F (w.heap.size+2) (.slice A s.length c) s k/\¬F T/\Bk wr T #[(.slice A s.length c)] 24/\Bk wr (w.heap.size+1) #[.slice none 0 0] 24/\Below w.heap.size w wr/\T<wr.heap.size/\w.heap.size+2<=T)) (fun i _=>(s.length - intOf i).toNat)
 case atStart=>exact⟨0,Nat.zero_le _,rfl,HI⟩
 case round=>
  obtain⟨k,hk,rfl,hM⟩:=hrel
  obtain⟨F,hM,hFT,hTb,hRb,hB,hTz,hTl⟩:=hM.out
  have k0:wr.cell? ⟨T,0,none⟩=some (.slice A s.length c):=hTb.cell 0
  have k1:wr.cell? ⟨w.heap.size+1,0,none⟩=some (.slice none 0 0):=hRb.cell 0
  have k2:wr.frozen? ⟨w.heap.size+1,0,none⟩=false:=hRb.frozen 0
  by_cases hkn:k=s.length
  ·subst hkn
   have h1:DO kGroupO 4 55 (wr.setCell ⟨w.heap.size+1,0,none⟩ (.slice A s.length c)) F (.slice A s.length c) s:=hM.all.up ya0 fun b hb=>yae _ _ _ _ (by have:=(hM.bnd b hb).1;omega)
   have H1:=zh (h1.wide (F':=fun b=>w.heap.size<=b/\b<(wr.setCell ⟨w.heap.size+1,0,none⟩ (.slice A s.length c)).heap.size) (fun b hb=>⟨by have:=(hM.bnd b hb).1;omega,h1.lt b hb⟩) (fun b hb=>hb.2))
   have H2:=zh (hB.setCell (p:=⟨w.heap.size+1,0,none⟩) (Nat.le_succ _) (.slice A s.length c))
   have S7:(wr.setCell ⟨w.heap.size+1,0,none⟩ (.slice A s.length c)).cell? ⟨w.heap.size+1,0,none⟩=some (.slice A s.length c):=(hRb.set (i:=0) (.slice A s.length c)).cell 0
   clear hM hFT hTb hRb hB h1 CD CV CA CX HI HS
   go_wp2
   refine bodyPost_ret (v:=.agg #[(.slice A s.length c)]) (by simp[results,Tryz.results19,go_sem,S7]) rfl ⟨A,c,rfl,H1.out,H2.out⟩
  ·have hlt:k<s.length:=by omega
   have hi:(k:Int)<(s.length:Int):=by omega
   obtain⟨x,hx⟩:∃ x,s[k]?=some x:=⟨s[k],List.getElem?_eq_getElem hlt⟩
   have hsm:=HS.out x (List.mem_of_getElem? hx)
   rcases hM.val with ⟨h,h'⟩|⟨g,c',hv,hc⟩
   ·rw[h'] at hlt;exact absurd hlt (Nat.not_lt_zero _)
   injection hv with hv1 _ hv3
   subst hv1 hv3
   obtain⟨vs,hvl,⟨v1,v2,v3,rfl,hpo,l1,l2,l3⟩,hg1,hg2,hra⟩:=hM.range hx
   obtain⟨B1,u1,rfl,_,_⟩:=l1.val
   obtain⟨B2,u2,rfl,_,_⟩:=l2.val
   obtain⟨B3,u3,rfl,_,_⟩:=l3.val
   have e0:wr.cell? ⟨g,k*4,none⟩=some (.string x.path):=hra 0 _ rfl
   have e1:wr.cell? ⟨g,k*4+1,none⟩=some (.slice B1 x.dims.length u1):=hra 1 _ rfl
   have e2:wr.cell? ⟨g,k*4+2,none⟩=some (.slice B2 x.vars.length u2):=hra 2 _ rfl
   have e3:wr.cell? ⟨g,k*4+3,none⟩=some (.slice B3 x.attrs.length u3):=hra 3 _ rfl
   have HM:=zh (And.intro hM (And.intro hFT (And.intro hTb (And.intro hRb (And.intro hB (And.intro hTz (And.intro hTl hg1)))))))
   have HL:=zh (And.intro l1 (And.intro l2 (And.intro l3 (And.intro hpo (And.intro hx hsm)))))
   have hz2:w.heap.size+2<=wr.heap.size:=by omega
   clear hM hFT hTb hRb hB hpo l1 l2 l3 hx hsm hra hvl HI k0 k1 k2 HS
   go_wp2
   have kx:=Bk.new wr #[.string x.path,.slice B1 x.dims.length u1,.slice B2 x.vars.length u2,.slice B3 x.attrs.length u3] 55
   have zx:(wr.alloc (.cells #[.string x.path,.slice B1 x.dims.length u1,.slice B2 x.vars.length u2,.slice B3 x.attrs.length u3] 55)).heap.size=wr.heap.size+1:=by simp
   have bx:Below wr.heap.size wr (wr.alloc (.cells #[.string x.path,.slice B1 x.dims.length u1,.slice B2 x.vars.length u2,.slice B3 x.attrs.length u3] 55)):=by (repeat (first|exact zJ _ _|assumption|refine yab ?_ _|refine zL ?_|refine yac ?_ (by assumption)|refine yaa ?_ _|refine zO ?_ (by simp<;>omega) _|refine zP ?_ (by simp<;>omega) _))
   generalize hwg:wr.alloc (.cells #[.string x.path,.slice B1 x.dims.length u1,.slice B2 x.vars.length u2,.slice B3 x.attrs.length u3] 55)=wg at *
   obtain⟨U,hU⟩:∃ U,U=wr.heap.size:=⟨_,rfl⟩
   rw[<- hU] at kx zx
   have HU:=zh hU
   have hn0:wg.heap.size=U+1:=zx
   obtain⟨l1,l2,l3,hpo,hx,hsm⟩:=HL.out
   have C1:=fun w2 (hb:Below wg.heap.size wg w2)=>CD _ _ w2 ((VL.keeps ybh l1 ((bx.trans (hb.mono bx.size)).mono hz2)).lifts ya2 (Nat.le_trans hz2 (bx.trans (hb.mono bx.size)).size)) (by have:=hsm.1;omega)
   have C2:=fun w2 (hb:Below wg.heap.size wg w2)=>CV _ _ w2 _ (Nat.le_trans hz2 (bx.trans (hb.mono bx.size)).size) (VL.keeps ybd l2 ((bx.trans (hb.mono bx.size)).mono hz2)) (by have:=hsm.2.1;omega)
   have C3:=fun w2 (hb:Below wg.heap.size wg w2)=>CA _ _ w2 ((VL.keeps yaq l3 ((bx.trans (hb.mono bx.size)).mono hz2)).lifts yap (Nat.le_trans hz2 (bx.trans (hb.mono bx.size)).size)) (by have:=hsm.2.2.1;omega) (fun a ha=>by have:=hsm.2.2.2.1 a ha;omega)
   have HBx:=zh (And.intro bx hpo)
   have HX:=zh hx
   have HSM:=zh hsm
   have HZW:=zh (Nat.le_trans hz2 bx.size)
   rw[<- hU]
   clear hwg l1 l2 l3 hpo hx hsm bx zx hU HL
   refine wp_region_noPanic ?_
   refine xStartH (E:=[9,10,11,12,13,14]) (S:=fun w'=>Bk w' U #[.string x.path,.slice B1 x.dims.length u1,.slice B2 x.vars.length u2,.slice B3 x.attrs.length u3] 55/\Below wg.heap.size wg w') (by kernel_rfl) ⟨kx,Below.drew (Below.refl _ _)⟩ fun hHeld=>?_
   have hn0':wg.drew.heap.size=U+1:=hn0
   generalize hw0:wg.drew=w0 at *
   clear hw0 kx
   refine xVal 0 20 (.pointer (some ⟨U,1,none⟩)) hHeld (by kernel_rfl) (fun w' hSw=>?_) ?_
   ·simp only[List.getElem?_toArray,List.getElem?_cons_zero,Option.map_some,Option.some.injEq];first|(go_simp;done)|(with_reducible rfl)|(go_simp;omega)|(go_simp;go_show;fail)
   simp only[Act.put,zB,zC,zD]
   refine xVal 3 23 (.pointer (some ⟨U,2,none⟩)) hHeld (by kernel_rfl) (fun w' hSw=>?_) ?_
   ·simp only[zE,zF,zG,zH,zI];first|(go_simp;done)|(with_reducible rfl)|(go_simp;omega)
   simp only[Act.put,zB,zC,zD]
   refine xVal 6 26 (.pointer (some ⟨U,3,none⟩)) hHeld (by kernel_rfl) (fun w' hSw=>?_) ?_
   ·simp only[zE,zF,zG,zH,zI];first|(go_simp;done)|(with_reducible rfl)|(go_simp;omega)
   simp only[Act.put,zB,zC,zD]
   refine xVal 1 21 (.slice B1 x.dims.length u1) hHeld (by kernel_rfl) (fun w' hSw=>?_) ?_
   ·have q1:=hSw.1.cell 1;simp only[List.getElem?_toArray,List.getElem?_cons_succ,List.getElem?_cons_zero] at q1;simp only[zE,zF,zG,zH,zI];first|(go_simp;done)|(with_reducible rfl)|(go_simp;omega)
   simp only[Act.put,zB,zC,zD]
   refine xVal 4 24 (.slice B2 x.vars.length u2) hHeld (by kernel_rfl) (fun w' hSw=>?_) ?_
   ·have q1:=hSw.1.cell 2;simp only[List.getElem?_toArray,List.getElem?_cons_succ,List.getElem?_cons_zero] at q1;simp only[zE,zF,zG,zH,zI];first|(go_simp;done)|(with_reducible rfl)|(go_simp;omega)
   simp only[Act.put,zB,zC,zD]
   refine xVal 7 27 (.slice B3 x.attrs.length u3) hHeld (by kernel_rfl) (fun w' hSw=>?_) ?_
   ·have q1:=hSw.1.cell 3;simp only[List.getElem?_toArray,List.getElem?_cons_succ,List.getElem?_cons_zero] at q1;simp only[zE,zF,zG,zH,zI];first|(go_simp;done)|(with_reducible rfl)|(go_simp;omega)
   simp only[Act.put,zB,zC,zD]
   refine xEnter 2 22 53 #[.slice B1 x.dims.length u1] (by kernel_rfl) (by kernel_rfl) (by kernel_rfl) (C1 _ hHeld.2) ?_
   rintro e w1 ⟨v',rfl,ho,hb⟩
   have N1:=zh hb.size
   obtain⟨E1,d1,rfl⟩:=ho.val
   have D1:=zh (ho.dof yax)
   clear ho
   refine⟨_,rfl,⟨Bk.up hHeld.1 hb,yac hHeld.2 hb⟩,fun hHeld=>?_⟩
   clear hb
   simp only[Act.put,zB,zC,zD]
   refine xPure 9 29 (.pointer (some ⟨U,1,none⟩)) (by kernel_rfl) (fun w'=>?_) ?_
   ·simp only[zE,zF,zG,zH,zI];first|(go_simp;done)|(with_reducible rfl)|(go_simp;omega)
   simp only[Act.put,zB,zC,zD]
   refine xEnter 5 25 54 #[.slice B2 x.vars.length u2] (by kernel_rfl) (by kernel_rfl) (by kernel_rfl) (C2 _ hHeld.2) ?_
   rintro e w2 ⟨v',rfl,ho,hb⟩
   have D1:=zh (D1.out.more (yas yax) hb)
   have N2:=zh hb.size
   obtain⟨E2,d2,rfl⟩:=ho.val
   have D2:=zh (OL.dmB (P:=kVarO) ho (Nat.le_trans HZW.out hHeld.2.size))
   clear ho
   refine⟨_,rfl,⟨Bk.up hHeld.1 hb,yac hHeld.2 hb⟩,fun hHeld=>?_⟩
   clear hb
   simp only[Act.put,zB,zC,zD]
   refine xEnter 8 28 55 #[.slice B3 x.attrs.length u3] (by kernel_rfl) (by kernel_rfl) (by kernel_rfl) (C3 _ hHeld.2) ?_
   rintro e w3 ⟨v',rfl,ho,hb⟩
   have N3:=zh hb.size
   have D1:=zh (D1.out.more (yas yax) hb)
   have D2:=zh (D2.out.up ydy ybd hb (Nat.le_trans HZW.out hHeld.2.size))
   obtain⟨E3,d3,rfl⟩:=ho.val
   have D3:=zh ho
   clear ho
   refine⟨_,rfl,⟨Bk.up hHeld.1 hb,yac hHeld.2 hb⟩,fun hHeld=>?_⟩
   clear hb
   simp only[Act.put,zB,zC,zD]
   have K0:=zh hHeld.1
   have B0:=zh hHeld.2
   clear hHeld
   have q1:=K0.out.cell 1
   have q2:=K0.out.frozen 1
   simp only[List.getElem?_toArray,List.getElem?_cons_succ,List.getElem?_cons_zero] at q1
   refine xStore 10 (w3.setCell ⟨U,1,none⟩ (.slice E1 x.dims.length d1)) (by kernel_rfl) (by kernel_rfl) ?_ (fun h=>absurd (by decide) h) ?_
   ·simp only[zE,zF,zG,zH,zI];first|(go_simp;done)|(with_reducible rfl)|(go_simp;omega)
   try simp only[Act.put,zB,zC,zD]
   have K1:=zh (K0.out.set (i:=1) (.slice E1 x.dims.length d1))
   simp only[List.setIfInBounds_toArray,List.set_cons_zero,List.set_cons_succ] at K1
   clear q1 q2
   refine xPure 11 30 (.pointer (some ⟨U,2,none⟩)) (by kernel_rfl) (fun w'=>?_) ?_
   ·simp only[zE,zF,zG,zH,zI];first|(go_simp;done)|(with_reducible rfl)|(go_simp;omega)
   simp only[Act.put,zB,zC,zD]
   have q1:=K1.out.cell 2
   have q2:=K1.out.frozen 2
   simp only[List.getElem?_toArray,List.getElem?_cons_succ,List.getElem?_cons_zero] at q1
   refine xStore 12 ((w3.setCell ⟨U,1,none⟩ (.slice E1 x.dims.length d1)).setCell ⟨U,2,none⟩ (.slice E2 x.vars.length d2)) (by kernel_rfl) (by kernel_rfl) ?_ (fun h=>absurd (by decide) h) ?_
   ·simp only[zE,zF,zG,zH,zI];first|(go_simp;done)|(with_reducible rfl)|(go_simp;omega)
   try simp only[Act.put,zB,zC,zD]
   have K2:=zh (K1.out.set (i:=2) (.slice E2 x.vars.length d2))
   simp only[List.setIfInBounds_toArray,List.set_cons_zero,List.set_cons_succ] at K2
   clear q1 q2
   refine xPure 13 31 (.pointer (some ⟨U,3,none⟩)) (by kernel_rfl) (fun w'=>?_) ?_
   ·simp only[zE,zF,zG,zH,zI];first|(go_simp;done)|(with_reducible rfl)|(go_simp;omega)
   simp only[Act.put,zB,zC,zD]
   have q1:=K2.out.cell 3
   have q2:=K2.out.frozen 3
   simp only[List.getElem?_toArray,List.getElem?_cons_succ,List.getElem?_cons_zero] at q1
   refine xStore 14 (((w3.setCell ⟨U,1,none⟩ (.slice E1 x.dims.length d1)).setCell ⟨U,2,none⟩ (.slice E2 x.vars.length d2)).setCell ⟨U,3,none⟩ (.slice E3 x.attrs.length d3)) (by kernel_rfl) (by kernel_rfl) ?_ (fun h=>absurd (by decide) h) ?_
   ·simp only[zE,zF,zG,zH,zI];first|(go_simp;done)|(with_reducible rfl)|(go_simp;omega)
   try simp only[Act.put,zB,zC,zD]
   have K3:=zh (K2.out.set (i:=3) (.slice E3 x.attrs.length d3))
   simp only[List.setIfInBounds_toArray,List.set_cons_zero,List.set_cons_succ] at K3
   clear q1 q2
   refine xDone (by kernel_rfl) (tNoP ?_)
   have n1:=N1.out
   have n2:=N2.out
   have n3:=N3.out
   have e5:w.heap.size+2<=U:=by rw[HU.out];exact hz2
   generalize hw5:World.setCell _ _ (.slice E3 x.attrs.length d3)=w5 at *
   have hsz:w5.heap.size=w3.heap.size:=by rw[<- hw5];simp
   have hot:∀ b,b≠U->w5.heap[b]?=w3.heap[b]?:=fun b hb=>by
    rw[<- hw5,yae _ _ _ _ hb,yae _ _ _ _ hb,yae _ _ _ _ hb]
   have hb5:Below U wr w5:=by
    have h:=(HBx.out.1.mono (by rw[HU.out];exact Nat.le_refl _:U<=wr.heap.size)).trans (B0.out.mono (by omega:U<=wg.heap.size))
    rw[<- hw5]
    exact((h.setCell (p:=⟨U,1,none⟩) (Nat.le_refl _) _).setCell (p:=⟨U,2,none⟩) (Nat.le_refl _) _).setCell (p:=⟨U,3,none⟩) (Nat.le_refl _) _
   have hb35:Below (w.heap.size+2) w3 w5:=by
    rw[<- hw5]
    exact(((Below.refl _ w3).setCell (p:=⟨U,1,none⟩) e5 _).setCell (p:=⟨U,2,none⟩) e5 _).setCell (p:=⟨U,3,none⟩) e5 _
   have X1:=zh (D1.out.up (yas yax) fun b hb=>hot b (by have:=hb.1;omega))
   have X2:=zh (D2.out.same ydy ybd (fun b hb=>hot b (by have:=hb.1;omega)) hb35)
   have X3:=zh (D3.out.up ybt fun b hb=>hot b (by have:=hb.1;omega))
   have H5:=zh hb5
   have HS5:=zh hsz
   obtain⟨n0,hq0⟩:∃ n,n=w0.heap.size:=⟨_,rfl⟩
   obtain⟨m1,hq1⟩:∃ n,n=w1.heap.size:=⟨_,rfl⟩
   obtain⟨m2,hq2⟩:∃ n,n=w2.heap.size:=⟨_,rfl⟩
   obtain⟨m3,hq3⟩:∃ n,n=w3.heap.size:=⟨_,rfl⟩
   rw[<- hq0,<- hq1] at X1
   rw[<- hq1,<- hq2] at X2
   rw[<- hq2,<- hq3] at X3
   rw[<- hq0,<- hq1] at n1
   rw[<- hq1,<- hq2] at n2
   rw[<- hq2,<- hq3] at n3
   rw[<- hq3] at HS5
   rw[<- hq0] at hn0'
   clear hw5 hsz hot hb5 hb35 D1 D2 D3 K0 K1 K2 B0 hq0 hq1 hq2 hq3 N1 N2 N3 e5 C1 C2 C3 hn0
   have t52:w5.cell? ⟨U,2,none⟩=some (.slice E2 x.vars.length d2):=K3.out.cell 2
   have hq13:m1<=m3:=Nat.le_trans n2 n3
   have I5:=zh (show ∃ FV:Nat->Prop,DM kVarO kVar 8 41 w5 FV (w.heap.size+2) (.slice E2 x.vars.length d2) x.vars 0/\(∀ b,FV b->m1<=b/\(b<m2\/m3<=b))/\Bk w5 U #[.string x.path,.slice E1 x.dims.length d1,.slice E2 x.vars.length d2,.slice E3 x.attrs.length d3] 55/\DO (flt kDim) 3 26 w5 (fun b=>n0<=b/\b<m1) (.slice E1 x.dims.length d1) x.dims/\DO kAttrO 4 43 w5 (fun b=>m2<=b/\b<m3) (.slice E3 x.attrs.length d3) x.attrs/\Below U wr w5/\m3<=w5.heap.size from⟨_,X2.out,fun b hb=>⟨hb.1,.inl hb.2⟩,K3.out,X1.out,X3.out,H5.out,by rw[HS5.out];exact Nat.le_refl _⟩)
   have hvn:x.vars.length<=1000000000:=HSM.out.2.1
   have hvi:(x.vars.length:Int)<=1000000000:=by omega
   clear X1 X2 X3 K3 H5 HS5
   go_wp2
   obtain⟨wo,rfl⟩:∃ wo,wo=wr:=⟨_,rfl⟩
   go_loopw [35] (fun i wz=>∃ j:Nat,j<=x.vars.length/\i=.int .i64 (j:Int)/\Hid (∃ FV:Nat->Prop,DM kVarO kVar 8 41 wz FV (w.heap.size+2) (.slice E2 x.vars.length d2) x.vars j/\(∀ b,FV b->m1<=b/\(b<m2\/m3<=b))/\Bk wz U #[.string x.path,.slice E1 x.dims.length d1,.slice E2 x.vars.length d2,.slice E3 x.attrs.length d3] 55/\DO (flt kDim) 3 26 wz (fun b=>n0<=b/\b<m1) (.slice E1 x.dims.length d1) x.dims/\DO kAttrO 4 43 wz (fun b=>m2<=b/\b<m3) (.slice E3 x.attrs.length d3) x.attrs/\Below U wo wz/\m3<=wz.heap.size)) (fun i _=>(x.vars.length - intOf i).toNat)
   case atStart=>exact⟨0,Nat.zero_le _,rfl,I5⟩
   case round=>
    obtain⟨j,hj,rfl,hI⟩:=hrel
    obtain⟨FV,hV,hFV,hK,hD,hA,hBz,hmz⟩:=hI.out
    clear I5 t52
    by_cases hjn:j=x.vars.length
    ·subst hjn
     obtain⟨hM,hFT,hTb,hRb,hB,hTz',hTl',hgg⟩:=HM.out
     have hUa:wo.heap.size<=U:=by rw[HU.out];exact Nat.le_refl _
     have hUb:U<=wo.heap.size:=by rw[HU.out];exact Nat.le_refl _
     have hgw:g<U:=by omega
     have hTw:T<U:=by omega
     have hgF:=hM.own
     have hgT:T≠g:=fun e=>hFT (by rw[e];exact hgF)
     have kT:wr.cell? ⟨T,0,none⟩=some (.slice (some ⟨g,0,none⟩) s.length c):=(hBz.cell (p:=⟨T,0,none⟩) (by omega)).trans (hTb.cell 0)
     have u0:wr.cell? ⟨U,0,none⟩=some (.string x.path):=hK.cell 0
     have u1':wr.cell? ⟨U,1,none⟩=some (.slice E1 x.dims.length d1):=hK.cell 1
     have u2':wr.cell? ⟨U,2,none⟩=some (.slice E2 x.vars.length d2):=hK.cell 2
     have u3':wr.cell? ⟨U,3,none⟩=some (.slice E3 x.attrs.length d3):=hK.cell 3
     have g0:wr.cell? ⟨g,k*4,none⟩=some (.string x.path):=(hBz.cell (p:=⟨g,k*4,none⟩) (by omega)).trans e0
     have g1:wr.cell? ⟨g,k*4+1,none⟩=some (.slice B1 x.dims.length u1):=(hBz.cell (p:=⟨g,k*4+1,none⟩) (by omega)).trans e1
     have g2:wr.cell? ⟨g,k*4+2,none⟩=some (.slice B2 x.vars.length u2):=(hBz.cell (p:=⟨g,k*4+2,none⟩) (by omega)).trans e2
     have g3:wr.cell? ⟨g,k*4+3,none⟩=some (.slice B3 x.attrs.length u3):=(hBz.cell (p:=⟨g,k*4+3,none⟩) (by omega)).trans e3
     have fz:∀ q,q<4->wr.frozen? ⟨g,k*4+q,none⟩=false:=fun q hq=>(hBz.frozen (p:=⟨g,k*4+q,none⟩) (by omega)).trans (hM.there HX.out q hq).2
     have fz0:wr.frozen? ⟨g,k*4,none⟩=false:=fz 0 (by omega)
     have fz1:=fz 1 (by omega)
     have fz2:=fz 2 (by omega)
     have fz3:=fz 3 (by omega)
     have hbw:Below wo.heap.size wo wr:=hBz.mono hUa
     have hkG:kGroupO wr (fun b=>(n0<=b/\b<m1)\/FV b\/(m2<=b/\b<m3)) [.string x.path,.slice E1 x.dims.length d1,.slice E2 x.vars.length d2,.slice E3 x.attrs.length d3] x:=
      ⟨_,_,_,Parts n0 m1 m2 m3 FV,rfl,HBx.out.2,Parts.seps n1 n2 hFV,fun b hb=>by
       rcases hb with hb|hb|hb
       ·exact hD.lt b hb
       ·exact(hV.bnd b hb).2
       ·exact hA.lt b hb,hD,hV.all,hA⟩
     have HN3:=zh (show ∃ F:Nat->Prop,DM kGroupO kGroup 4 55 (wr.setCells g (k*4) [.string x.path,.slice E1 x.dims.length d1,.slice E2 x.vars.length d2,.slice E3 x.attrs.length d3]) F (w.heap.size+2) (.slice (some ⟨g,0,none⟩) s.length c) s (k+1)/\¬F T/\Bk (wr.setCells g (k*4) [.string x.path,.slice E1 x.dims.length d1,.slice E2 x.vars.length d2,.slice E3 x.attrs.length d3]) T #[(.slice (some ⟨g,0,none⟩) s.length c)] 24/\Bk (wr.setCells g (k*4) [.string x.path,.slice E1 x.dims.length d1,.slice E2 x.vars.length d2,.slice E3 x.attrs.length d3]) (w.heap.size+1) #[.slice none 0 0] 24/\Below w.heap.size w (wr.setCells g (k*4) [.string x.path,.slice E1 x.dims.length d1,.slice E2 x.vars.length d2,.slice E3 x.attrs.length d3])/\T<(wr.setCells g (k*4) [.string x.path,.slice E1 x.dims.length d1,.slice E2 x.vars.length d2,.slice E3 x.attrs.length d3]).heap.size/\w.heap.size+2<=T from by
      refine⟨_,hM.store ya0 yah HX.out hbw hz2 rfl hkG (fun b hb=>?_),fun h=>?_,(yaz g _ _ _ hgT).trans (hTb.up hbw),(yaz g _ _ _ (by omega)).trans (hRb.up hbw),yca _ _ (hB.trans (hbw.mono hB.size)) (by omega),by rw[ycp];have:=hbw.size;omega,hTl'⟩
      ·rcases hb with hb|hb|hb
       ·omega
       ·have:=hFV b hb;omega
       ·omega
      ·rcases h with h|h|h|h
       ·exact hFT h
       ·omega
       ·have:=hFV T h;omega
       ·omega)
     clear hM hFT hTb hRb hB hV hFV hK hD hA hBz fz hbw hkG HU HBx HX HM HSM hgF HZW hI
     go_wp2
     go_roundw
     case measure=>simp only[intOf];omega
     case rel=>exact⟨k+1,by omega,by simp,HN3⟩
    ·have hjlt:j<x.vars.length:=by omega
     have hji:(j:Int)<(x.vars.length:Int):=by omega
     obtain⟨y,hy⟩:∃ y,x.vars[j]?=some y:=⟨x.vars[j],List.getElem?_eq_getElem hjlt⟩
     rcases hV.val with ⟨h,h'⟩|⟨gV,cV,hv,hcv⟩
     ·rw[h'] at hjlt;exact absurd hjlt (Nat.not_lt_zero _)
     injection hv with hv1 _ hv3
     subst hv1 hv3
     obtain⟨vs,hvl,⟨y1,y2,y3,y4,rfl,yo1,yo2,yo3,yo4,yl1,yl2,yl3,yl4⟩,hgv1,hgv2,hrv⟩:=hV.range hy
     obtain⟨Y1,p1,rfl,_,_⟩:=yl1.val
     obtain⟨Y2,p2,rfl,_,_⟩:=yl2.val
     obtain⟨Y3,p3,rfl,_,_⟩:=yl3.val
     obtain⟨Y4,p4,rfl,_,_⟩:=yl4.val
     have t0:wr.cell? ⟨U,2,none⟩=some (.slice (some ⟨gV,0,none⟩) x.vars.length d2):=hK.cell 2
     have cW:=CX y (.slice Y1 y.dims.length p1) (.slice Y2 y.chunks.length p2) (.slice Y3 y.stages.length p3) (.slice Y4 y.attrs.length p4)
     have hI2:=zh hI.out
     have hym:=HSM.out.2.2.2.2 y (List.mem_of_getElem? hy)
     have HR:=zh hrv
     have HY:=zh (And.intro (And.intro yl1 (And.intro yl2 (And.intro yl3 yl4))) (And.intro (And.intro yo1 (And.intro yo2 (And.intro yo3 yo4))) (And.intro hy hym)))
     have f0:wr.cell? ⟨gV,j*8,none⟩=some (.string y.name):=hrv 0 _ rfl
     have f1:wr.cell? ⟨gV,j*8+1,none⟩=some (.int .i64 y.typ):=hrv 1 _ rfl
     have f2:wr.cell? ⟨gV,j*8+2,none⟩=some (.slice Y1 y.dims.length p1):=hrv 2 _ rfl
     have f3:wr.cell? ⟨gV,j*8+3,none⟩=some (.slice Y2 y.chunks.length p2):=hrv 3 _ rfl
     have f4:wr.cell? ⟨gV,j*8+4,none⟩=some (.string y.fill):=hrv 4 _ rfl
     have f5:wr.cell? ⟨gV,j*8+5,none⟩=some (.string y.unit):=hrv 5 _ rfl
     have f6:wr.cell? ⟨gV,j*8+6,none⟩=some (.slice Y3 y.stages.length p3):=hrv 6 _ rfl
     have f7:wr.cell? ⟨gV,j*8+7,none⟩=some (.slice Y4 y.attrs.length p4):=hrv 7 _ rfl
     clear hV hFV hD hA hBz yl1 yl2 yl3 yl4 yo1 yo2 yo3 yo4 hy hym hrv hvl CX hI
     go_wp2
     have kU2:=Bk.new wr #[.string y.name,.int .i64 y.typ,.slice Y1 y.dims.length p1,.slice Y2 y.chunks.length p2,.string y.fill,.string y.unit,.slice Y3 y.stages.length p3,.slice Y4 y.attrs.length p4] 41
     have kU1:Bk (wr.alloc (.cells #[.string y.name,.int .i64 y.typ,.slice Y1 y.dims.length p1,.slice Y2 y.chunks.length p2,.string y.fill,.string y.unit,.slice Y3 y.stages.length p3,.slice Y4 y.attrs.length p4] 41)) U #[.string x.path,.slice E1 x.dims.length d1,.slice (some ⟨gV,0,none⟩) x.vars.length d2,.slice E3 x.attrs.length d3] 55:=hK.alloc
     have bz:Below wr.heap.size wr (wr.alloc (.cells #[.string y.name,.int .i64 y.typ,.slice Y1 y.dims.length p1,.slice Y2 y.chunks.length p2,.string y.fill,.string y.unit,.slice Y3 y.stages.length p3,.slice Y4 y.attrs.length p4] 41)):=by (repeat (first|exact zJ _ _|assumption|refine yab ?_ _|refine zL ?_|refine yac ?_ (by assumption)|refine yaa ?_ _|refine zO ?_ (by simp<;>omega) _|refine zP ?_ (by simp<;>omega) _))
     generalize hwy:wr.alloc (.cells #[.string y.name,.int .i64 y.typ,.slice Y1 y.dims.length p1,.slice Y2 y.chunks.length p2,.string y.fill,.string y.unit,.slice Y3 y.stages.length p3,.slice Y4 y.attrs.length p4] 41)=wy at *
     obtain⟨U2,hU2⟩:∃ U2,U2=wr.heap.size:=⟨_,rfl⟩
     rw[<- hU2] at kU2
     have HU2:=zh hU2
     have hwz:w.heap.size+2<=wr.heap.size:=by omega
     have CW:=fun w2 (hb:Below wy.heap.size wy w2)=>(show Calls Tryz.prog 56 #[.agg #[.string y.name,.int .i64 y.typ,.slice Y1 y.dims.length p1,.slice Y2 y.chunks.length p2,.string y.fill,.string y.unit,.slice Y3 y.stages.length p3,.slice Y4 y.attrs.length p4]] w2 _ from cW w2 ((VL.keeps yav HY.out.1.1 ((bz.trans (hb.mono bz.size)).mono hwz)).lifts yao (Nat.le_trans hwz (bz.trans (hb.mono bz.size)).size)) ((VL.keeps ybr HY.out.1.2.1 ((bz.trans (hb.mono bz.size)).mono hwz)).lifts ybg (Nat.le_trans hwz (bz.trans (hb.mono bz.size)).size)) ((VL.keeps ybe HY.out.1.2.2.1 ((bz.trans (hb.mono bz.size)).mono hwz)).lifts ya5 (Nat.le_trans hwz (bz.trans (hb.mono bz.size)).size)) ((VL.keeps yaq HY.out.1.2.2.2 ((bz.trans (hb.mono bz.size)).mono hwz)).lifts yap (Nat.le_trans hwz (bz.trans (hb.mono bz.size)).size)) HY.out.2.1 HY.out.2.2.2)
     have HZ:=zh bz
     rw[<- hU2]
     clear cW bz hwy hU2 hK f0 f1 f2 f3 f4 f5 f6 f7 t0 hmz
     refine wp_region_noPanic ?_
     refine xStartH (E:=[6]) (S:=fun w'=>Bk w' U #[.string x.path,.slice E1 x.dims.length d1,.slice (some ⟨gV,0,none⟩) x.vars.length d2,.slice E3 x.attrs.length d3] 55/\Bk w' U2 #[.string y.name,.int .i64 y.typ,.slice Y1 y.dims.length p1,.slice Y2 y.chunks.length p2,.string y.fill,.string y.unit,.slice Y3 y.stages.length p3,.slice Y4 y.attrs.length p4] 41/\Below wy.heap.size wy w') (by kernel_rfl) ⟨kU1,kU2,Below.drew (Below.refl _ _)⟩ fun hHeld=>?_
     generalize hw0:wy.drew=w8 at *
     clear hw0 kU1 kU2
     refine xVal 0 40 (.pointer (some ⟨U,2,none⟩)) hHeld (by kernel_rfl) (fun w' hSw=>?_) ?_
     ·simp only[List.getElem?_toArray,List.getElem?_cons_zero,Option.map_some,Option.some.injEq];first|(go_simp;done)|(with_reducible rfl)|(go_simp;omega)|(go_simp;go_show;fail)
     simp only[Act.put,zB,zC,zD]
     refine xVal 1 41 (.slice (some ⟨gV,0,none⟩) x.vars.length d2) hHeld (by kernel_rfl) (fun w' hSw=>?_) ?_
     ·have q1:=hSw.1.cell 2;simp only[List.getElem?_toArray,List.getElem?_cons_succ,List.getElem?_cons_zero] at q1;simp only[zE,zF,zG,zH,zI];first|(go_simp;done)|(with_reducible rfl)|(go_simp;omega)
     simp only[Act.put,zB,zC,zD]
     refine xRun [(2,42,some (.int .i64 (j:Int)))] hHeld (by kernel_rfl) rfl ?_
     simp only[runA,Act.put,zB,zC,zD]
     refine xLoad 3 43 41 (.tmp 7) U2 0 [.string y.name,.int .i64 y.typ,.slice Y1 y.dims.length p1,.slice Y2 y.chunks.length p2,.string y.fill,.string y.unit,.slice Y3 y.stages.length p3,.slice Y4 y.attrs.length p4] hHeld (by kernel_rfl) (by kernel_rfl) rfl (fun w' hw'=>ybu hw'.2.1) Tryz.underlying41 rfl (by kernel_rfl) ?_
     simp only[Act.put,zB,zC,zD]
     refine xEnter 4 44 56 #[.agg #[.string y.name,.int .i64 y.typ,.slice Y1 y.dims.length p1,.slice Y2 y.chunks.length p2,.string y.fill,.string y.unit,.slice Y3 y.stages.length p3,.slice Y4 y.attrs.length p4]] (by kernel_rfl) (by kernel_rfl) (by kernel_rfl) (CW _ hHeld.2.2) ?_
     rintro e w9 ⟨Z1,z1,Z2,z2,Z3,z3,Z4,z4,rfl,hko,hb⟩
     have KO:=zh hko
     have HW8:=zh hHeld.2.2.size
     refine⟨_,rfl,⟨Bk.up hHeld.1 hb,Bk.up hHeld.2.1 hb,yac hHeld.2.2 hb⟩,fun hHeld=>?_⟩
     clear hb hko
     simp only[Act.put,zB,zC,zD]
     refine xVal 5 45 (.pointer (some ⟨gV,j*8,none⟩)) hHeld (by kernel_rfl) (fun w' hSw=>?_) ?_
     ·simp only[zE,zF,zG,zH,zI];first|(go_simp;done)|(with_reducible rfl)|(go_simp;omega)
     simp only[Act.put,zB,zC,zD]
     obtain⟨FV,hV,hFV,hK,hD,hA,hBz,hmz⟩:=hI2.out
     have hb9:Below wr.heap.size wr w9:=HZ.out.trans (hHeld.2.2.mono HZ.out.size)
     have hth:w9.there gV (j*8) 8:=fun q hq=>by
      have h:=hV.there HY.out.2.2.1 q hq
      exact⟨by rw[hb9.cell (p:=⟨gV,j*8+q,none⟩) hgv2];exact h.1,by rw[hb9.frozen (p:=⟨gV,j*8+q,none⟩) hgv2];exact h.2⟩
     refine xStoreMid 6 41 (.tmp 45) (.tmp 44) gV (j*8) #[.string y.name,.int .i64 y.typ,.slice Z1 y.dims.length z1,.slice Z2 y.chunks.length z2,.string y.fill,.string y.unit,.slice Z3 y.stages.length z3,.slice Z4 y.attrs.length z4] (by kernel_rfl) (by kernel_rfl) rfl rfl hth (by kernel_rfl) (by simp[Value.oneCell']) (fun h=>absurd (by decide) h) ?_
     refine xDone (by kernel_rfl) (tNoP ?_)
     have hgm:=hFV gV hV.own
     have hUm:U<gV:=by omega
     have hFn:∀ b,(w8.heap.size<=b/\b<w9.heap.size)->wr.heap.size<=b:=fun b hb=>by
      have h1:=HZ.out.size
      have h2:=HW8.out
      omega
     have HN2:=zh (show ∃ FV:Nat->Prop,DM kVarO kVar 8 41 (w9.setCells gV (j*8) (#[.string y.name,.int .i64 y.typ,.slice Z1 y.dims.length z1,.slice Z2 y.chunks.length z2,.string y.fill,.string y.unit,.slice Z3 y.stages.length z3,.slice Z4 y.attrs.length z4]:Array Value).toList) FV (w.heap.size+2) (.slice (some ⟨gV,0,none⟩) x.vars.length d2) x.vars (j+1)/\(∀ b,FV b->m1<=b/\(b<m2\/m3<=b))/\Bk (w9.setCells gV (j*8) (#[.string y.name,.int .i64 y.typ,.slice Z1 y.dims.length z1,.slice Z2 y.chunks.length z2,.string y.fill,.string y.unit,.slice Z3 y.stages.length z3,.slice Z4 y.attrs.length z4]:Array Value).toList) U #[.string x.path,.slice E1 x.dims.length d1,.slice (some ⟨gV,0,none⟩) x.vars.length d2,.slice E3 x.attrs.length d3] 55/\DO (flt kDim) 3 26 (w9.setCells gV (j*8) (#[.string y.name,.int .i64 y.typ,.slice Z1 y.dims.length z1,.slice Z2 y.chunks.length z2,.string y.fill,.string y.unit,.slice Z3 y.stages.length z3,.slice Z4 y.attrs.length z4]:Array Value).toList) (fun b=>n0<=b/\b<m1) (.slice E1 x.dims.length d1) x.dims/\DO kAttrO 4 43 (w9.setCells gV (j*8) (#[.string y.name,.int .i64 y.typ,.slice Z1 y.dims.length z1,.slice Z2 y.chunks.length z2,.string y.fill,.string y.unit,.slice Z3 y.stages.length z3,.slice Z4 y.attrs.length z4]:Array Value).toList) (fun b=>m2<=b/\b<m3) (.slice E3 x.attrs.length d3) x.attrs/\Below U wo (w9.setCells gV (j*8) (#[.string y.name,.int .i64 y.typ,.slice Z1 y.dims.length z1,.slice Z2 y.chunks.length z2,.string y.fill,.string y.unit,.slice Z3 y.stages.length z3,.slice Z4 y.attrs.length z4]:Array Value).toList)/\m3<=(w9.setCells gV (j*8) (#[.string y.name,.int .i64 y.typ,.slice Z1 y.dims.length z1,.slice Z2 y.chunks.length z2,.string y.fill,.string y.unit,.slice Z3 y.stages.length z3,.slice Z4 y.attrs.length z4]:Array Value).toList).heap.size from by
      refine⟨_,hV.store ydy ybd HY.out.2.2.1 hb9 hwz rfl KO.out hFn,fun b hb=>?_,?_,hD.up (yas yax) fun b hb=>?_,hA.up ybt fun b hb=>?_,?_,?_⟩
      ·rcases hb with hb|hb
       ·exact hFV b hb
       ·have:=hFn b hb
        exact⟨by omega,.inr (by omega)⟩
      ·exact(yaz gV _ _ _ (by omega)).trans (hK.up hb9)
      ·exact(yaz gV _ _ _ (by have:=hb.2;omega)).trans (hb9.block b (hD.lt b hb))
      ·exact(yaz gV _ _ _ (by have:=hb.1;have:=hb.2;omega)).trans (hb9.block b (hA.lt b hb))
      ·exact yca _ _ (hBz.trans (hb9.mono (by omega))) (by omega)
      ·rw[ycp];have:=hb9.size;omega)
     clear hV hFV hK hD hA hBz hb9 hth HZ HY HR hHeld hI2 CW KO hFn HW8
     generalize hwf:World.setCells _ _ _ _=wf at *
     clear hwf
     go_wp2
     go_roundw
     case measure=>simp only[intOf];omega
     case rel=>exact⟨j+1,by omega,by simp,HN2⟩
end Go.Proofs.YtajmjllhdcdkmaaGreatDoor
