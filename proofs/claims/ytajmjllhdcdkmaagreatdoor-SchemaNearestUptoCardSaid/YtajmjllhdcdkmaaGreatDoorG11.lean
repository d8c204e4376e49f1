import Derived.Test.YtajmjllhdcdkmaaGreatDoorZ
import Derived.Test.YtajmjllhdcdkmaaGreatDoorG10
import Derived.Test.YtajmjllhdcdkmaaGreatDoorG9
import Derived.Test.YtajmjllhdcdkmaaGreatDoorG2
import Derived.Deep.MidRow
import Derived.Deep.RegionHeld3
import Derived.Laws.OwnMore
import Derived.Maps.AppendAt
import Derived.Laws.IdiomStrings
import Derived.Lib.OthersKept
import Derived.ChangeKeysEq
import Derived.MapKept
set_option maxRecDepth 100000
set_option maxHeartbeats 6400000
namespace Go.Proofs.YtajmjllhdcdkmaaGreatDoor
open Go.RowKit Go.Proofs.YtajmjllhdcdkmaaGreatDoor.Dg Go.Proofs.YtajmjllhdcdkmaaGreatDoor.Q
def Bk (w:World) (g:Nat) (C:Array Value) (t:TypeId):Prop:=w.heap[g]?=some (.cells C t (0,0))
theorem Bk.below {w w':World} {g B:Nat} {C:Array Value} {t:TypeId} (h:Bk w g C t) (hb:Below B w w') (hg:g<B):Bk w' g C t:=(hb.block g hg).trans h
theorem Bk.cell {w:World} {g:Nat} {C:Array Value} {t:TypeId} (h:Bk w g C t) (i:Nat):w.cell? ⟨g,i,none⟩=C[i]?:=by
 unfold Bk at h
 simp[World.cell?,h]
theorem Bk.frozen {w:World} {g:Nat} {C:Array Value} {t:TypeId} (h:Bk w g C t) (i:Nat):w.frozen? ⟨g,i,none⟩=false:=by
 unfold Bk at h
 simp[World.frozen?,h]
theorem Bk.new (w:World) (C:Array Value) (t:TypeId):Bk (w.alloc (.cells C t)) w.heap.size C t:=Deep.blk_alloc_new w _
theorem Bk.lt {w:World} {g:Nat} {C:Array Value} {t:TypeId} (h:Bk w g C t):g<w.heap.size:=by
 rcases Nat.lt_or_ge g w.heap.size with h1|h1
 ·exact h1
 ·unfold Bk at h
  rw[Array.getElem?_eq_none h1] at h
  cases h
theorem Bk.alloc {w:World} {g:Nat} {C D:Array Value} {t u:TypeId} (h:Bk w g C t):Bk (w.alloc (.cells D u)) g C t:=(Deep.blk_alloc_lt w _ g h.lt).trans h
theorem Bk.up {w w':World} {g:Nat} {C:Array Value} {t:TypeId} (h:Bk w g C t) (hb:Below w.heap.size w w'):Bk w' g C t:=h.below hb h.lt
theorem Bk.set {w:World} {g i:Nat} {C:Array Value} {t:TypeId} (h:Bk w g C t) (v:Value):Bk (w.setCell ⟨g,i,none⟩ v) g (C.setIfInBounds i v) t:=by
 unfold Bk at *
 simp[World.setCell,Array.getElem?_modify,h]
theorem Bk.set_other {w:World} {g h i:Nat} {C:Array Value} {t:TypeId} (k:Bk w g C t) (v:Value) (hne:g≠h):Bk (w.setCell ⟨h,i,none⟩ v) g C t:=by
 unfold Bk at *
 simp only[World.setCell,Array.getElem?_modify]
 rw[if_neg (fun e=>hne e.symm)]
 exact k
def putL (w:World) (g:Nat):Nat->List Value->World
 | _,[]=>w
 | i,v::l=>putL (w.setCell ⟨g,i,none⟩ v) g (i+1) l
theorem ypg (g:Nat) (l:List Value):∀ (w:World) (i:Nat),(putL w g i l).heap.size=w.heap.size:=by
 induction l with
 | nil=>intro w i;rfl
 | cons v l ih=>intro w i;rw[putL,ih];simp[World.setCell]
theorem yd9 {B g:Nat} (hg:B<=g) (l:List Value):∀ {w0 w:World} (i:Nat),Below B w0 w->Below B w0 (putL w g i l):=by
 induction l with
 | nil=>intro w0 w i h;exact h
 | cons v l ih=>intro w0 w i h;exact ih (i+1) (h.setCell hg v)
theorem yfh {g k:Nat} (hk:k≠g) (l:List Value):∀ (w:World) (i:Nat),(putL w g i l).heap[k]?=w.heap[k]?:=by
 induction l with
 | nil=>intro w i;rfl
 | cons v l ih=>
  intro w i
  rw[putL,ih]
  simp only[World.setCell,Array.getElem?_modify]
  rw[if_neg (fun e=>hk e.symm)]
theorem Bk.put_other {w:World} {g h:Nat} {C:Array Value} {t:TypeId} (k:Bk w g C t) (i:Nat) (l:List Value) (hne:g≠h):Bk (putL w h i l) g C t:=(yfh hne l w i).trans k
theorem Bk.put_at {g:Nat} {t:TypeId} (l:List Value):∀ {w:World} (pre old:List Value),Bk w g (pre++old).toArray t->old.length=l.length->Bk (putL w g pre.length l) g (pre++l).toArray t:=by
 induction l with
 | nil=>intro w pre old h e;rw[List.length_eq_zero_iff.1 e] at h;exact h
 | cons v l ih=>
  intro w pre old h e
  cases old with
  | nil=>cases e
  | cons o old=>
   have h2:=h.set (i:=pre.length) v
   have e2:(pre++o::old).toArray.setIfInBounds pre.length v=((pre++[v])++old).toArray:=by
    rw[List.setIfInBounds_toArray]
    congr 1
    rw[List.set_append_right _ _ (Nat.le_refl _),Nat.sub_self,List.set_cons_zero,List.append_assoc]
    rfl
   rw[e2] at h2
   have h3:=ih (pre++[v]) old h2 (by simpa using e)
   rw[List.length_append,List.append_assoc] at h3
   exact h3
theorem Bk.put {w:World} {g:Nat} {C:Array Value} {t:TypeId} (h:Bk w g C t) (l:List Value) (e:C.size=l.length):Bk (putL w g 0 l) g l.toArray t:=by
 cases C with
 | mk c=>exact Bk.put_at l [] c h (by simpa using e)
theorem yb9 {w0 w:World} {B g:Nat} {v0 v1 v2 v3 v4 v5 v6 v7 v8:Value} (h:Below B w0 w) (hg:B<=g):Below B w0 (((((((((w.setCell ⟨g,0,none⟩ v0).setCell ⟨g,1,none⟩ v1).setCell ⟨g,2,none⟩ v2).setCell ⟨g,3,none⟩ v3).setCell ⟨g,4,none⟩ v4).setCell ⟨g,5,none⟩ v5).setCell ⟨g,6,none⟩ v6).setCell ⟨g,7,none⟩ v7).setCell ⟨g,8,none⟩ v8):=yd9 hg [v0,v1,v2,v3,v4,v5,v6,v7,v8] 0 h
def notK (k:IntKind):Value->Bool
 | .int k' _=>k' != k
 | _=>true
theorem Fs.ne_block {k:IntKind} {w:World} {g b off:Nat} {C:Array Value} {t:TypeId} (hr:Bk w g C t) (hC:C.all (notK k)=true) {j:Nat} {v:Int} (hc:w.cell? ⟨b,off+j,none⟩=some (.int k v)):b≠g:=by
 rintro rfl
 rw[hr.cell] at hc
 have:=Array.all_eq_true'.1 hC _ (Array.mem_of_getElem? hc)
 simp[notK] at this
theorem Fs.putL {k:IntKind} {w:World} {B n c g:Nat} {A:Option Addr} {o:Nat->Nat} {C:Array Value} {t:TypeId} (h:Fs k w B A n c o) (hr:Bk w g C t) (hC:C.all (notK k)=true) (i:Nat) (l:List Value):Fs k (Go.Proofs.YtajmjllhdcdkmaaGreatDoor.putL w g i l) B A n c o:=
 ⟨h.1,h.2.1,fun hn=>by
  obtain⟨bk,off,e,hlt,hc⟩:=h.2.2 hn
  refine⟨bk,off,e,hlt,fun j hj=>?_⟩
  have hne:bk≠g:=Fs.ne_block hr hC (hc j hj)
  rw[<- hc j hj]
  simp only[World.cell?]
  rw[yfh hne l w i]⟩
theorem Nt.putL {k:IntKind} {w:World} {A:Option Addr} {c v g:Nat} {C:Array Value} {t:TypeId} (h:Nt k w w.heap.size A c v) (hr:Bk w g C t) (hC:C.all (notK k)=true) (i:Nat) (l:List Value) :
  Nt k (Go.Proofs.YtajmjllhdcdkmaaGreatDoor.putL w g i l) (Go.Proofs.YtajmjllhdcdkmaaGreatDoor.putL w g i l).heap.size A c v:=by
 rw[ypg]
 exact Fs.putL h hr hC i l
theorem Fr.putL {w:World} {v:Value} {q:Rat} {g:Nat} {C:Array Value} {t:TypeId} (h:Fr w v q) (hr:Bk w g C t) (hC:C.all (notK .u32)=true) (i:Nat) (l:List Value):Fr (Go.Proofs.YtajmjllhdcdkmaaGreatDoor.putL w g i l) v q:=by
 obtain⟨A,c,A',c',e,h1,h2⟩:=h
 exact⟨A,c,A',c',e,h1.putL hr hC i l,h2.putL hr hC i l⟩
open Go.RowKit Go.Proofs.YtajmjllhdcdkmaaGreatDoor.Q
abbrev Rd (α:Type):=World->Nat->List Value->α->Prop
def Keeps {α:Type} (P:Rd α):Prop:=∀ (w w':World) (B:Nat) (vs:List Value) (x:α),P w B vs x->Below B w w'->P w' B vs x
def Lifts {α:Type} (P:Rd α):Prop:=∀ (w:World) (B B':Nat) (vs:List Value) (x:α),P w B vs x->B<=B'->P w B' vs x
def VL {α:Type} (P:Rd α) (m:Nat) (w:World) (B:Nat) (v:Value) (xs:List α):Prop:=
 ∃ A n c,v=.slice A n c/\xs.length=n/\n<=c/\n<=9223372036854775807/\(A=none->c=0)/\(0<n->∃ b off,A=some ⟨b,off,none⟩/\b<B/\∀ k x,xs[k]?=some x->∃ vs:List Value,vs.length=m/\w.rangeAt b (off+k*m) vs/\P w B vs x)
theorem yad {w w':World} {B b o:Nat} {vs:List Value} (h:w.rangeAt b o vs) (hb:Below B w w') (hlt:b<B):w'.rangeAt b o vs:=fun j v hv=>(hb.cell (p:=⟨b,o+j,none⟩) hlt).trans (h j v hv)
theorem VL.keeps {α:Type} {P:Rd α} {m:Nat} (hP:Keeps P) {w w':World} {B:Nat} {v:Value} {xs:List α} (h:VL P m w B v xs) (hb:Below B w w'):VL P m w' B v xs:=by
 obtain⟨A,n,c,e,h1,h2,h3,h4,h5⟩:=h
 refine⟨A,n,c,e,h1,h2,h3,h4,fun hn=>?_⟩
 obtain⟨b,off,e1,hlt,hx⟩:=h5 hn
 refine⟨b,off,e1,hlt,fun k x hk=>?_⟩
 obtain⟨vs,g1,g2,g3⟩:=hx k x hk
 exact⟨vs,g1,yad g2 hb hlt,hP _ _ _ _ _ g3 hb⟩
theorem VL.lifts {α:Type} {P:Rd α} {m:Nat} (hP:Lifts P) {w:World} {B B':Nat} {v:Value} {xs:List α} (h:VL P m w B v xs) (hb:B<=B'):VL P m w B' v xs:=by
 obtain⟨A,n,c,e,h1,h2,h3,h4,h5⟩:=h
 refine⟨A,n,c,e,h1,h2,h3,h4,fun hn=>?_⟩
 obtain⟨b,off,e1,hlt,hx⟩:=h5 hn
 refine⟨b,off,e1,Nat.lt_of_lt_of_le hlt hb,fun k x hk=>?_⟩
 obtain⟨vs,g1,g2,g3⟩:=hx k x hk
 exact⟨vs,g1,g2,hP _ _ _ _ _ g3 hb⟩
theorem VL.nil {α:Type} {P:Rd α} {m:Nat} {w:World} {B:Nat}:VL P m w B (.slice none 0 0) []:=⟨none,0,0,rfl,rfl,Nat.le_refl _,by omega,fun _=>rfl,fun h=>absurd h (by omega)⟩
theorem VL.val {α:Type} {P:Rd α} {m:Nat} {w:World} {B:Nat} {v:Value} {xs:List α} (h:VL P m w B v xs):∃ A c,v=.slice A xs.length c/\xs.length<=c/\xs.length<=9223372036854775807:=by
 obtain⟨A,n,c,e,h1,h2,h3,_⟩:=h
 subst h1
 exact⟨A,c,e,h2,h3⟩
theorem VL.get {α:Type} {P:Rd α} {m:Nat} {w:World} {B:Nat} {A:Option Addr} {n c k:Nat} {xs:List α} {x:α} (h:VL P m w B (.slice A n c) xs) (hk:xs[k]?=some x):∃ b off vs,A=some ⟨b,off,none⟩/\b<B/\vs.length=m/\w.rangeAt b (off+k*m) vs/\P w B vs x:=by
 obtain⟨A',n',c',e,h1,_,_,_,h5⟩:=h
 injection e with e1 e2 e3
 subst e1 e2 e3
 have hlt:=(List.getElem?_eq_some_iff.1 hk).1
 obtain⟨b,off,e1,hlt,hx⟩:=h5 (by omega)
 obtain⟨vs,g1,g2,g3⟩:=hx k x hk
 exact⟨b,off,vs,e1,hlt,g1,g2,g3⟩
theorem VL.part {α:Type} {P:Rd α} {m:Nat} {w:World} {B:Nat} {A:Option Addr} {n c p q:Nat} {xs:List α} (h:VL P m w B (.slice A n c) xs) (hpq:p<=q) (hq:q<=n):VL P m w B (.slice (if c=p then A else A.map (·.add (p*m))) (q - p) (c - p)) ((xs.take q).drop p):=by
 obtain⟨A',n',c',e,h1,h2,h3,h4,h5⟩:=h
 injection e with e1 e2 e3
 subst e1 e2 e3
 refine⟨_,_,_,rfl,by rw[List.length_drop,List.length_take,h1];omega,by omega,by omega,fun hA=>?_,fun hn=>?_⟩
 ·split at hA
  ·omega
  ·have:=h4 (by simpa using hA);omega
 ·obtain⟨b,off,rfl,hlt,hx⟩:=h5 (by omega)
  refine⟨b,off+p*m,?_,hlt,fun k x hk=>?_⟩
  ·rw[if_neg (by omega),Option.map_some,Addr.add_mid]
  ·rw[List.getElem?_drop] at hk
   have hk2:xs[p+k]?=some x:=by
    rw[List.getElem?_take] at hk
    split at hk
    ·exact hk
    ·cases hk
   obtain⟨vs,g1,g2,g3⟩:=hx _ x hk2
   exact⟨vs,g1,by rw[Nat.add_assoc,<- Nat.add_mul];exact g2,g3⟩
def inI (n:Int):Prop:=-9223372036854775808<=n/\n<=9223372036854775807
def kStr:Rd ByteArray:=fun _ _ vs x=>vs=[.string x]/\x.size<=9223372036854775807
def kInt:Rd Int:=fun _ _ vs x=>vs=[.int .i64 x]/\inI x
theorem yav:Keeps kStr:=fun _ _ _ _ _ h _=>h
theorem yao:Lifts kStr:=fun _ _ _ _ _ h _=>h
theorem ybr:Keeps kInt:=fun _ _ _ _ _ h _=>h
theorem ybg:Lifts kInt:=fun _ _ _ _ _ h _=>h
structure AttrD where
 name:ByteArray
 kind:Int
 text:ByteArray
 nums:List ByteArray
structure DimD where
 name:ByteArray
 size:Int
 opn:Bool
structure StageD where
 kind:Int
 n:Int
 step:ByteArray
structure VarD where
 name:ByteArray
 typ:Int
 dims:List ByteArray
 chunks:List Int
 fill:ByteArray
 unit:ByteArray
 stages:List StageD
 attrs:List AttrD
structure GroupD where
 path:ByteArray
 dims:List DimD
 vars:List VarD
 attrs:List AttrD
def okS (x:ByteArray):Prop:=x.size<=9223372036854775807
def kDim:Rd DimD:=fun _ _ vs d=>vs=[.string d.name,.int .i64 d.size,.bool d.opn]/\okS d.name/\inI d.size
def kStage:Rd StageD:=fun _ _ vs s=>vs=[.int .i64 s.kind,.int .i64 s.n,.string s.step]/\inI s.kind/\inI s.n/\okS s.step
def kAttr:Rd AttrD:=fun w B vs a=>∃ v,vs=[.string a.name,.int .i64 a.kind,.string a.text,v]/\okS a.name/\inI a.kind/\okS a.text/\VL kStr 1 w B v a.nums
def kVar:Rd VarD:=fun w B vs x=>∃ v1 v2 v3 v4,vs=[.string x.name,.int .i64 x.typ,v1,v2,.string x.fill,.string x.unit,v3,v4]/\okS x.name/\inI x.typ/\okS x.fill/\okS x.unit/\VL kStr 1 w B v1 x.dims/\VL kInt 1 w B v2 x.chunks/\VL kStage 3 w B v3 x.stages/\VL kAttr 4 w B v4 x.attrs
def kGroup:Rd GroupD:=fun w B vs g=>∃ v1 v2 v3,vs=[.string g.path,v1,v2,v3]/\okS g.path/\VL kDim 3 w B v1 g.dims/\VL kVar 8 w B v2 g.vars/\VL kAttr 4 w B v3 g.attrs
abbrev VSchema (w:World) (B:Nat) (v:Value) (s:List GroupD):Prop:=VL kGroup 4 w B v s
theorem ybh:Keeps kDim:=fun _ _ _ _ _ h _=>h
theorem ya2:Lifts kDim:=fun _ _ _ _ _ h _=>h
theorem ybe:Keeps kStage:=fun _ _ _ _ _ h _=>h
theorem ya5:Lifts kStage:=fun _ _ _ _ _ h _=>h
theorem yaq:Keeps kAttr:=fun _ _ _ _ _ ⟨v,h1,h2,h3,h4,h5⟩ hb=>⟨v,h1,h2,h3,h4,h5.keeps yav hb⟩
theorem yap:Lifts kAttr:=fun _ _ _ _ _ ⟨v,h1,h2,h3,h4,h5⟩ hb=>⟨v,h1,h2,h3,h4,h5.lifts yao hb⟩
theorem ybd:Keeps kVar:=fun _ _ _ _ _ ⟨v1,v2,v3,v4,h1,h2,h3,h4,h5,h6,h7,h8,h9⟩ hb=>⟨v1,v2,v3,v4,h1,h2,h3,h4,h5,h6.keeps yav hb,h7.keeps ybr hb,h8.keeps ybe hb,h9.keeps yaq hb⟩
theorem yb2:Lifts kVar:=fun _ _ _ _ _ ⟨v1,v2,v3,v4,h1,h2,h3,h4,h5,h6,h7,h8,h9⟩ hb=>⟨v1,v2,v3,v4,h1,h2,h3,h4,h5,h6.lifts yao hb,h7.lifts ybg hb,h8.lifts ya5 hb,h9.lifts yap hb⟩
theorem yah:Keeps kGroup:=fun _ _ _ _ _ ⟨v1,v2,v3,h1,h2,h3,h4,h5⟩ hb=>⟨v1,v2,v3,h1,h2,h3.keeps ybh hb,h4.keeps ybd hb,h5.keeps yaq hb⟩
theorem yai:Lifts kGroup:=fun _ _ _ _ _ ⟨v1,v2,v3,h1,h2,h3,h4,h5⟩ hb=>⟨v1,v2,v3,h1,h2,h3.lifts ya2 hb,h4.lifts yb2 hb,h5.lifts yap hb⟩
open Go.RowKit Go.Proofs.YtajmjllhdcdkmaaGreatDoor.Dg Go.Proofs.YtajmjllhdcdkmaaGreatDoor.Q Go.Proofs.YtajmjllhdcdkmaaGreatDoor.Num
structure Un where
 (F O:List UInt8)
 p:P7
deriving DecidableEq
def Un.none:Un:=⟨[],[],⟨0,0,0,0,0,0,0⟩⟩
def Un.v (u:Un):Value:=uv ⟨u.F.toArray⟩ ⟨u.O.toArray⟩ u.p
def GiveU (w:World) (r:Un×Int) (e:Ending) (w':World):Prop:=e=.returned (.tuple #[r.1.v,.int .i64 r.2])/\Below w.heap.size w w'
def unC (F O:ByteArray) (p:P7):Array Value:=#[.string F,.string O,.int .i64 p.a,.int .i64 p.b,.int .i64 p.c,.int .i64 p.d,.int .i64 p.e,.int .i64 p.f,.int .i64 p.g]
def u0C:Array Value:=#[.string ⟨#[]⟩,.string ⟨#[]⟩,.int .i64 0,.int .i64 0,.int .i64 0,.int .i64 0,.int .i64 0,.int .i64 0,.int .i64 0]
theorem Ub.up {w w':World} {g:Nat} {F O:ByteArray} {p:P7} (h:Ub w g F O p) (hb:Below w.heap.size w w'):Ub w' g F O p:=Bk.up (C:=unC F O p) h hb
theorem yc4 {w:World} {g:Nat} {t:TypeId} (h:Bk w g u0C t):w.cell? ⟨g,0,none⟩=some (.string ⟨#[]⟩)/\w.cell? ⟨g,1,none⟩=some (.string ⟨#[]⟩)/\w.cell? ⟨g,2,none⟩=some (.int .i64 0)/\w.cell? ⟨g,3,none⟩=some (.int .i64 0)/\w.cell? ⟨g,4,none⟩=some (.int .i64 0)/\w.cell? ⟨g,5,none⟩=some (.int .i64 0)/\w.cell? ⟨g,6,none⟩=some (.int .i64 0)/\w.cell? ⟨g,7,none⟩=some (.int .i64 0)/\w.cell? ⟨g,8,none⟩=some (.int .i64 0):=
 ⟨h.cell 0,h.cell 1,h.cell 2,h.cell 3,h.cell 4,h.cell 5,h.cell 6,h.cell 7,h.cell 8⟩
theorem Bk.frozen9 {w:World} {g:Nat} {t:TypeId} {C:Array Value} (h:Bk w g C t):w.frozen? ⟨g,0,none⟩=false/\w.frozen? ⟨g,1,none⟩=false/\w.frozen? ⟨g,2,none⟩=false/\w.frozen? ⟨g,3,none⟩=false/\w.frozen? ⟨g,4,none⟩=false/\w.frozen? ⟨g,5,none⟩=false/\w.frozen? ⟨g,6,none⟩=false/\w.frozen? ⟨g,7,none⟩=false/\w.frozen? ⟨g,8,none⟩=false:=
 ⟨h.frozen 0,h.frozen 1,h.frozen 2,h.frozen 3,h.frozen 4,h.frozen 5,h.frozen 6,h.frozen 7,h.frozen 8⟩
theorem Ub.frozen9 {w:World} {g:Nat} {F O:ByteArray} {p:P7} (h:Ub w g F O p):w.frozen? ⟨g,0,none⟩=false/\w.frozen? ⟨g,1,none⟩=false/\w.frozen? ⟨g,2,none⟩=false/\w.frozen? ⟨g,3,none⟩=false/\w.frozen? ⟨g,4,none⟩=false/\w.frozen? ⟨g,5,none⟩=false/\w.frozen? ⟨g,6,none⟩=false/\w.frozen? ⟨g,7,none⟩=false/\w.frozen? ⟨g,8,none⟩=false:=Bk.frozen9 (C:=unC F O p) h
open Go.RowKit Dg Q Num Str
theorem Tryz.infoSetL:(Tryz.prog.info? (Tryz.lays161_ren.t 116)).map (fun i=>(i.zero,i.size))=some (some (.agg (Array.replicate 256 (.bool false))),256):=by kernel_rfl
def cnt (l:List UInt8):Nat:=(l.takeWhile isD).length
theorem yka (l:List UInt8):Lib.trimLeftS l cs10=l.dropWhile isD:=by
 unfold Lib.trimLeftS
 congr 1
 funext c
 exact ylj c
theorem yl5 (l:List UInt8):cnt l+(l.dropWhile isD).length=l.length:=by
 unfold cnt
 have:=congrArg List.length (List.takeWhile_append_dropWhile (p:=isD) (l:=l))
 rw[List.length_append] at this
 exact this
theorem ygr (l:List UInt8):cnt l<=l.length:=by have:=yl5 l;omega
theorem yfy (S:ByteArray) (w:World) :
  Calls Tryz.prog 197 #[.string S,.string ⟨#[48,49,50,51,52,53,54,55,56,57]⟩] w fun e w'=>∃ T:ByteArray,e=.returned (.string T)/\(T.size:Int)=(S.size:Int) - (cnt (bl S):Int)/\Below w.heap.size w w':=
 (Any.strings_TrimLeft_laid Tryz.lays161 Tryz.infoSetL S ⟨#[48,49,50,51,52,53,54,55,56,57]⟩ w (by decide) (ascii_of_all (by decide))).mono fun e w' ⟨h1,h2⟩=>⟨_,h1,by
  have:=yl5 (bl S)
  rw[yag] at this
  rw[<- yag,bl_mk,show (S.data.toList:List UInt8)=bl S from rfl,show (⟨#[48,49,50,51,52,53,54,55,56,57]⟩:ByteArray).data.toList=cs10 from rfl,yka]
  omega,h2⟩
theorem yke (S:ByteArray) (hs:S.size<=1000) (w:World):Calls Tryz.prog 196 #[.string S] w fun e w'=>e=.returned (.int .i64 (cnt (bl S)))/\Below w.heap.size w w':=by
 have T:=yfy S w
 have sb:(S.size:Int)<=1000:=by omega
 have hle:=ygr (bl S)
 rw[yag] at hle
 generalize cnt (bl S)=n at *
 have nb:(n:Int)<=(S.size:Int):=by omega
 have e1:(S.size:Int) - ((S.size:Int) - (n:Int))=(n:Int):=by omega
 go_enter Tryz.func196,Tryz.ntmps196
 go_wp2_with (go_at_call 197;refine T.mono ?_;rintro e w1 ⟨T1,rfl,hT,hb⟩;have B:=zh hb;clear hb)
 go_ret
 exact⟨rfl,B.out⟩
def numb (l:List UInt8):Nat:=
 if 0<cnt l/\(l[cnt l]?=some 46\/l[cnt l]?=some 47) then
  (if 0<cnt (l.drop (cnt l+1)) then cnt l+1+cnt (l.drop (cnt l+1)) else cnt l)
 else cnt l
theorem yau (c d:UInt8):(c.toNat:Int)=(d.toNat:Int) ↔ c=d:=by
 rw[Int.natCast_inj]
 exact UInt8.toNat_inj
theorem yng (S:ByteArray) (hs:S.size<=1000) (w:World):Calls Tryz.prog 163 #[.string S] w fun e w'=>e=.returned (.int .i64 (numb (bl S)))/\Below w.heap.size w w':=by
 have sb:(S.size:Int)<=1000:=by omega
 have C1:=fun w=>yke S hs w
 have hle:=ygr (bl S)
 rw[yag] at hle
 obtain⟨X,hX⟩:∃ X,numb (bl S)=X:=⟨_,rfl⟩
 rw[hX]
 unfold numb at hX
 obtain⟨n,hn⟩:∃ n,cnt (bl S)=n:=⟨_,rfl⟩
 rw[hn] at hX hle C1
 have nb:(n:Int)<=(S.size:Int):=by omega
 by_cases h0:0<n
 rotate_left
 ·rw[if_neg (fun h=>h0 h.1)] at hX
  subst hX
  have g0:¬(0:Int)<(n:Int):=by omega
  clear h0 hn hle
  go_enter Tryz.func163,Tryz.ntmps163
  go_wp2_with (go_at_call 196;refine(C1 _).mono ?_;rintro e w1 ⟨rfl,hb⟩;have B1:=zh hb;clear hb)
  go_ret
  exact⟨rfl,B1.out⟩
 have g0:(0:Int)<(n:Int):=by omega
 by_cases h1:n<S.size
 rotate_left
 ·rw[if_neg (fun h=>by
   have hnone:(bl S)[n]?=none:=List.getElem?_eq_none (by rw[yag];omega)
   rcases h.2 with h|h<;>rw[hnone] at h<;>cases h)] at hX
  subst hX
  have g1:¬(n:Int)<(S.size:Int):=by omega
  clear h0 h1 hn hle
  go_enter Tryz.func163,Tryz.ntmps163
  go_wp2_with (go_at_call 196;refine(C1 _).mono ?_;rintro e w1 ⟨rfl,hb⟩;have B1:=zh hb;clear hb)
  go_ret
  exact⟨rfl,B1.out⟩
 have g1:(n:Int)<(S.size:Int):=by omega
 rw[bl_at S n h1] at hX
 have hsz:(S.extract (n+1) S.size).size<=1000:=by
  rw[<- yag,yc1,List.length_take,List.length_drop,yag];omega
 have hcut:bl (S.extract (n+1) S.size)=(bl S).drop (n+1):=by
  rw[yc1,List.take_of_length_le (by rw[List.length_drop,yag];exact Nat.le_refl _)]
 have C2:=fun w=>yke (S.extract (n+1) S.size) hsz w
 have hle2:=ygr ((bl S).drop (n+1))
 rw[List.length_drop,yag] at hle2
 rw[hcut] at C2
 generalize cnt ((bl S).drop (n+1))=m at *
 have mb:(m:Int)<=(S.size:Int):=by omega
 have mb2:(n:Int)+1+(m:Int)<=1000:=by omega
 clear hsz hcut hle2 hle hn h0
 by_cases hc:(S[n].toNat:Int)=46
 ·rw[if_pos ⟨by omega,.inl (by rw[(yau S[n] 46).1 hc])⟩] at hX
  by_cases hm:0<m
  ·rw[if_pos hm] at hX
   have HX:=zh (show (n:Int)+1+(m:Int)=(X:Int) by omega)
   have gm:(0:Int)<(m:Int):=by omega
   clear hm hX
   go_enter Tryz.func163,Tryz.ntmps163
   go_wp2_with (first
    | (go_at_call 196;((with_reducible refine(C2 _).mono ?_);rintro e w2 ⟨rfl,hb⟩;have B2:=zh (yac B1.out hb);clear hb))
    | (go_at_call 196;((with_reducible refine(C1 _).mono ?_);rintro e w1 ⟨rfl,hb⟩;have B1:=zh hb;clear hb)))
   go_ret
   exact⟨by rw[<- HX.out];rfl,B2.out⟩
  ·rw[if_neg hm] at hX
   subst hX
   have gm:¬(0:Int)<(m:Int):=by omega
   clear hm
   go_enter Tryz.func163,Tryz.ntmps163
   go_wp2_with (first
    | (go_at_call 196;((with_reducible refine(C2 _).mono ?_);rintro e w2 ⟨rfl,hb⟩;have B2:=zh (yac B1.out hb);clear hb))
    | (go_at_call 196;((with_reducible refine(C1 _).mono ?_);rintro e w1 ⟨rfl,hb⟩;have B1:=zh hb;clear hb)))
   go_ret
   exact⟨rfl,B2.out⟩
 ·by_cases hc2:(S[n].toNat:Int)=47
  ·rw[if_pos ⟨by omega,.inr (by rw[(yau S[n] 47).1 hc2])⟩] at hX
   by_cases hm:0<m
   ·rw[if_pos hm] at hX
    have HX:=zh (show (n:Int)+1+(m:Int)=(X:Int) by omega)
    have gm:(0:Int)<(m:Int):=by omega
    clear hm hX
    go_enter Tryz.func163,Tryz.ntmps163
    go_wp2_with (first
     | (go_at_call 196;((with_reducible refine(C2 _).mono ?_);rintro e w2 ⟨rfl,hb⟩;have B2:=zh (yac B1.out hb);clear hb))
     | (go_at_call 196;((with_reducible refine(C1 _).mono ?_);rintro e w1 ⟨rfl,hb⟩;have B1:=zh hb;clear hb)))
    go_ret
    exact⟨by rw[<- HX.out];rfl,B2.out⟩
   ·rw[if_neg hm] at hX
    subst hX
    have gm:¬(0:Int)<(m:Int):=by omega
    clear hm
    go_enter Tryz.func163,Tryz.ntmps163
    go_wp2_with (first
     | (go_at_call 196;((with_reducible refine(C2 _).mono ?_);rintro e w2 ⟨rfl,hb⟩;have B2:=zh (yac B1.out hb);clear hb))
     | (go_at_call 196;((with_reducible refine(C1 _).mono ?_);rintro e w1 ⟨rfl,hb⟩;have B1:=zh hb;clear hb)))
    go_ret
    exact⟨rfl,B2.out⟩
  ·rw[if_neg (fun h=>by
    rcases h.2 with h|h
    ·injection h with h;exact hc (by rw[h];rfl)
    ·injection h with h;exact hc2 (by rw[h];rfl))] at hX
   subst hX
   clear C2
   have hc3:((S[n].toNat:Int)==46)=false:=by rw[beq_eq_false_iff_ne];exact hc
   have hc4:((S[n].toNat:Int)==47)=false:=by rw[beq_eq_false_iff_ne];exact hc2
   go_enter Tryz.func163,Tryz.ntmps163
   go_wp2_with (first
    | (go_at_call 196;((with_reducible refine(C2 _).mono ?_);rintro e w2 ⟨rfl,hb⟩;have B2:=zh (yac B1.out hb);clear hb))
    | (go_at_call 196;((with_reducible refine(C1 _).mono ?_);rintro e w1 ⟨rfl,hb⟩;have B1:=zh hb;clear hb)))
   go_ret
   exact⟨rfl,B1.out⟩
def isL (c:UInt8):Bool:=(decide (97<=c.toNat)&&decide (c.toNat<=122))||(decide (65<=c.toNat)&&decide (c.toNat<=90))
def wrd (l:List UInt8):Nat:=(l.takeWhile isL).length
theorem ykt {p:UInt8->Bool}:∀ {l:List UInt8} {k:Nat},(l.take k).all p=true->(∀ c,l[k]?=some c->p c=false)->k<=l.length->(l.takeWhile p).length=k
 | [],0,_,_,_=>rfl
 | c::l,0,_,h,_=>by rw[List.takeWhile_cons,if_neg (by rw[h c rfl];decide)];rfl
 | [],k+1,_,_,hk=>absurd hk (by simp)
 | c::l,k+1,h,h2,hk=>by
  rw[List.take_succ_cons,List.all_cons,Bool.and_eq_true] at h
  rw[List.takeWhile_cons,if_pos h.1,List.length_cons,ykt h.2 (fun d hd=>h2 d hd) (by simpa using hk)]
theorem ypx (c:UInt8):isL c=true ↔ ((97:Int)<=(c.toNat:Int)/\(c.toNat:Int)<=122)\/((65:Int)<=(c.toNat:Int)/\(c.toNat:Int)<=90):=by
 unfold isL
 rw[Bool.or_eq_true,Bool.and_eq_true,Bool.and_eq_true,decide_eq_true_iff,decide_eq_true_iff,decide_eq_true_iff,decide_eq_true_iff]
 omega
theorem yr2 (S:ByteArray) (hs:S.size<=1000) (w:World):Calls Tryz.prog 165 #[.string S] w fun e w'=>e=.returned (.int .i64 (wrd (bl S)))/\w=w':=by
 have sb:(S.size:Int)<=1000:=by omega
 go_enter Tryz.func165,Tryz.ntmps165
 go_wp2
 go_loopw [3] (fun i wr=>∃ k:Nat,k<=S.size/\i=.int .i64 (k:Int)/\w=wr/\Hid (((bl S).take k).all isL=true)) (fun i _=>(S.size - intOf i).toNat)
 case atStart=>exact⟨0,Nat.zero_le _,rfl,rfl,rfl⟩
 case round=>
  obtain⟨k,hk,rfl,rfl,hA⟩:=hrel
  by_cases hk0:k=S.size
  ·subst hk0
   have HW:=zh (show wrd (bl S)=S.size from ykt hA.out (fun c hc=>by rw[List.getElem?_eq_none (by rw[yag];exact Nat.le_refl _)] at hc;cases hc) (by rw[yag];exact Nat.le_refl _))
   clear hA
   go_wp2
   go_ret
   exact⟨by rw[HW.out];rfl,rfl⟩
  ·have hlt:k<S.size:=by omega
   have hi:(k:Int)<(S.size:Int):=by omega
   have hLB:=ypx S[k]
   have HA:=zh (show isL S[k]=true->((bl S).take (k+1)).all isL=true from fun h=>by rw[yo0 S k hlt,List.all_append,hA.out];simp[h])
   have HW:=zh (show isL S[k]=false->wrd (bl S)=k from fun h=>ykt hA.out (fun c hc=>by rw[bl_at S k hlt] at hc;injection hc with hc;rw[<- hc];exact h) (by rw[yag];exact hk))
   clear hA hk0
   generalize isL S[k]=b at *
   by_cases h1:(97:Int)<=(S[k].toNat:Int)
   ·by_cases h2:(S[k].toNat:Int)<=122
    ·have HA2:=zh (HA.out (hLB.2 (.inl ⟨h1,h2⟩)))
     clear HA HW hLB
     go_wp2
     go_roundw
     case rel=>exact⟨k+1,by omega,by go_num,by first|rfl|trivial,HA2⟩
     case measure=>simp only[intOf];omega
    ·have h3:¬(S[k].toNat:Int)<=90:=by omega
     have h4:(65:Int)<=(S[k].toNat:Int):=by omega
     have HW2:=zh (HW.out (by cases b;rfl;(have:=hLB.1 rfl;omega)))
     clear HA HW hLB
     go_wp2
     go_ret
     exact⟨by rw[HW2.out];rfl,rfl⟩
   ·by_cases h2:(65:Int)<=(S[k].toNat:Int)
    ·by_cases h3:(S[k].toNat:Int)<=90
     ·have HA2:=zh (HA.out (hLB.2 (.inr ⟨h2,h3⟩)))
      clear HA HW hLB
      go_wp2
      go_roundw
      case rel=>exact⟨k+1,by omega,by go_num,by first|rfl|trivial,HA2⟩
      case measure=>simp only[intOf];omega
     ·have HW2:=zh (HW.out (by cases b;rfl;(have:=hLB.1 rfl;omega)))
      clear HA HW hLB
      go_wp2
      go_ret
      exact⟨by rw[HW2.out];rfl,rfl⟩
    ·have HW2:=zh (HW.out (by cases b;rfl;(have:=hLB.1 rfl;omega)))
     clear HA HW hLB
     go_wp2
     go_ret
     exact⟨by rw[HW2.out];rfl,rfl⟩
def pfx (c:UInt8):Option (List UInt8):=
 if c=110 then some [49,47,49,48,48,48,48,48,48,48,48,48] else if c=117 then some [49,47,49,48,48,48,48,48,48] else if c=109 then some [49,47,49,48,48,48] else
 if c=99 then some [49,47,49,48,48] else if c=100 then some [49,47,49,48] else if c=104 then some [49,48,48] else if c=107 then some [49,48,48,48] else
 if c=77 then some [49,48,48,48,48,48,48] else if c=71 then some [49,48,48,48,48,48,48,48,48,48] else none
theorem ym8 (c:UInt8) (w:World):Calls Tryz.prog 200 #[.int .u8 (c.toNat:Int)] w fun e w'=>e=.returned (.tuple #[.string ⟨((pfx c).getD []).toArray⟩,.bool (pfx c).isSome])/\w=w':=by
 obtain⟨X,hX⟩:∃ X,pfx c=X:=⟨_,rfl⟩
 rw[hX]
 unfold pfx at hX
 by_cases h110:(c.toNat:Int)=110
 ·rw[if_pos ((yau c 110).1 h110)] at hX
  subst hX
  go_enter Tryz.func200,Tryz.ntmps200
  go_wp2
  go_ret2
  exact⟨rfl,rfl⟩
 rw[if_neg (fun e=>h110 ((yau c 110).2 e))] at hX
 by_cases h117:(c.toNat:Int)=117
 ·rw[if_pos ((yau c 117).1 h117)] at hX
  subst hX
  go_enter Tryz.func200,Tryz.ntmps200
  go_wp2
  go_ret2
  exact⟨rfl,rfl⟩
 rw[if_neg (fun e=>h117 ((yau c 117).2 e))] at hX
 by_cases h109:(c.toNat:Int)=109
 ·rw[if_pos ((yau c 109).1 h109)] at hX
  subst hX
  go_enter Tryz.func200,Tryz.ntmps200
  go_wp2
  go_ret2
  exact⟨rfl,rfl⟩
 rw[if_neg (fun e=>h109 ((yau c 109).2 e))] at hX
 by_cases h99:(c.toNat:Int)=99
 ·rw[if_pos ((yau c 99).1 h99)] at hX
  subst hX
  go_enter Tryz.func200,Tryz.ntmps200
  go_wp2
  go_ret2
  exact⟨rfl,rfl⟩
 rw[if_neg (fun e=>h99 ((yau c 99).2 e))] at hX
 by_cases h100:(c.toNat:Int)=100
 ·rw[if_pos ((yau c 100).1 h100)] at hX
  subst hX
  go_enter Tryz.func200,Tryz.ntmps200
  go_wp2
  go_ret2
  exact⟨rfl,rfl⟩
 rw[if_neg (fun e=>h100 ((yau c 100).2 e))] at hX
 by_cases h104:(c.toNat:Int)=104
 ·rw[if_pos ((yau c 104).1 h104)] at hX
  subst hX
  go_enter Tryz.func200,Tryz.ntmps200
  go_wp2
  go_ret2
  exact⟨rfl,rfl⟩
 rw[if_neg (fun e=>h104 ((yau c 104).2 e))] at hX
 by_cases h107:(c.toNat:Int)=107
 ·rw[if_pos ((yau c 107).1 h107)] at hX
  subst hX
  go_enter Tryz.func200,Tryz.ntmps200
  go_wp2
  go_ret2
  exact⟨rfl,rfl⟩
 rw[if_neg (fun e=>h107 ((yau c 107).2 e))] at hX
 by_cases h77:(c.toNat:Int)=77
 ·rw[if_pos ((yau c 77).1 h77)] at hX
  subst hX
  go_enter Tryz.func200,Tryz.ntmps200
  go_wp2
  go_ret2
  exact⟨rfl,rfl⟩
 rw[if_neg (fun e=>h77 ((yau c 77).2 e))] at hX
 by_cases h71:(c.toNat:Int)=71
 ·rw[if_pos ((yau c 71).1 h71)] at hX
  subst hX
  go_enter Tryz.func200,Tryz.ntmps200
  go_wp2
  go_ret2
  exact⟨rfl,rfl⟩
 rw[if_neg (fun e=>h71 ((yau c 71).2 e))] at hX
 subst hX
 go_enter Tryz.func200,Tryz.ntmps200
 go_wp2
 go_ret2
 exact⟨rfl,rfl⟩
structure Sy where
 (name fac off:List UInt8)
 pre:Bool
 p:P7
deriving DecidableEq
def Sy.none:Sy:=⟨[],[],[],false,⟨0,0,0,0,0,0,0⟩⟩
def Sy.L (s:Sy):List Value:=[.string ⟨s.name.toArray⟩,.string ⟨s.fac.toArray⟩,.string ⟨s.off.toArray⟩,.bool s.pre,.int .i64 s.p.a,.int .i64 s.p.b,.int .i64 s.p.c,.int .i64 s.p.d,.int .i64 s.p.e,.int .i64 s.p.f,.int .i64 s.p.g]
def Sy.v (s:Sy):Value:=.agg s.L.toArray
def syms:List Sy:=[
 ⟨[109],[49],[48],true,⟨1,0,0,0,0,0,0⟩⟩,
 ⟨[103],[49,47,49,48,48,48],[48],true,⟨0,1,0,0,0,0,0⟩⟩,
 ⟨[115],[49],[48],true,⟨0,0,1,0,0,0,0⟩⟩,
 ⟨[75],[49],[48],true,⟨0,0,0,1,0,0,0⟩⟩,
 ⟨[109,111,108],[49],[48],true,⟨0,0,0,0,1,0,0⟩⟩,
 ⟨[65],[49],[48],true,⟨0,0,0,0,0,1,0⟩⟩,
 ⟨[99,100],[49],[48],true,⟨0,0,0,0,0,0,1⟩⟩,
 ⟨[109,105,110],[54,48],[48],false,⟨0,0,1,0,0,0,0⟩⟩,
 ⟨[104],[51,54,48,48],[48],false,⟨0,0,1,0,0,0,0⟩⟩,
 ⟨[100],[56,54,52,48,48],[48],false,⟨0,0,1,0,0,0,0⟩⟩,
 ⟨[116],[49,48,48,48],[48],true,⟨0,1,0,0,0,0,0⟩⟩,
 ⟨[76],[49,47,49,48,48,48],[48],true,⟨3,0,0,0,0,0,0⟩⟩,
 ⟨[72,122],[49],[48],true,⟨0,0,-1,0,0,0,0⟩⟩,
 ⟨[78],[49],[48],true,⟨1,1,-2,0,0,0,0⟩⟩,
 ⟨[80,97],[49],[48],true,⟨-1,1,-2,0,0,0,0⟩⟩,
 ⟨[74],[49],[48],true,⟨2,1,-2,0,0,0,0⟩⟩,
 ⟨[87],[49],[48],true,⟨2,1,-3,0,0,0,0⟩⟩,
 ⟨[98,97,114],[49,48,48,48,48,48],[48],true,⟨-1,1,-2,0,0,0,0⟩⟩,
 ⟨[100,101,103,67],[49],[53,52,54,51,47,50,48],false,⟨0,0,0,1,0,0,0⟩⟩,
 ⟨[100,101,103,70],[53,47,57],[52,53,57,54,55,47,49,56,48],false,⟨0,0,0,1,0,0,0⟩⟩]
def sfind (l:List UInt8):Option Sy:=
 match syms.find? (fun s=>s.name==l) with
 | some s=>some s
 | none=>if l.length<2 then none else match pfx (l.headD 0) with
  | none=>none
  | some b=>(syms.find? (fun s=>s.pre&&s.name==l.tail)).map fun s=>{ s with fac:=bin dMul s.fac b }
theorem sz_inv {a:Rat} (h:a≠0):sz (a⁻¹)<=sz a+1:=by
 have:=sz_div (a:=1) h
 rw[Rat.div_def,Rat.one_mul,ymq] at this
 omega
theorem ypj {a:Rat} (h0:a≠0) {B:Nat} (h:sz a<=B) (n:Int):sz (a ^ n)<=n.natAbs*B+2:=by
 rcases Int.natAbs_eq n with e|e
 ·rw[e,Rat.zpow_natCast,Int.natAbs_natCast]
  have:=yii h n.natAbs
  omega
 ·rw[e,Rat.zpow_neg,Rat.zpow_natCast,Int.natAbs_neg,Int.natAbs_natCast]
  have h1:=yii h n.natAbs
  have h2:=sz_inv (ypd h0 n.natAbs)
  omega
def P7.plus (p:P7) (n:Int) (q:P7):P7:=⟨p.a+n*q.a,p.b+n*q.b,p.c+n*q.c,p.d+n*q.d,p.e+n*q.e,p.f+n*q.f,p.g+n*q.g⟩
theorem ysh {x:Int}:wi x=true ↔ -12<=x/\x<=12:=by unfold wi;simp
theorem yqy (F O:ByteArray) (p:P7):(unC F O p).all (notK .u32)=true:=by simp[unC,notK]
def pexp (l:List UInt8):Option (Int×Nat):=
 if cnt (body l)=0 then none else
 let t:=((body l).take (cnt (body l))).dropWhile (·==48)
 let n:Nat:=if t.length<=2 then val t else 1000
 some (if isNeg l=true then (-(n:Int),cnt (body l)+1) else ((n:Int),cnt (body l)))
structure PF where
 s:Sy
 exp:Int
 bare:Bool
deriving DecidableEq
def PF.L (x:PF):List Value:=x.s.L++[.int .i64 x.exp,.bool x.bare]
def pstep (sg:Int) (l:List UInt8):Option (PF×List UInt8):=
 if 0<numb l then match frm (l.take (numb l)) with
  | some q=>if short q=true/\q≠0 then some (⟨⟨[],txt q,[48],false,⟨0,0,0,0,0,0,0⟩⟩,sg,decide (sg=1)⟩,l.drop (numb l)) else none
  | none=>none
 else match sfind (l.take (wrd l)) with
  | none=>none
  | some y=>if (l.drop (wrd l)).head?=some 94 then match pexp (l.drop (wrd l)).tail with
    | none=>none
    | some (e,n)=>some (⟨y,sg*e,false⟩,(l.drop (wrd l)).tail.drop n)
   else some (⟨y,sg,decide (sg=1)⟩,l.drop (wrd l))
def pfac:Nat->Int->List PF->List UInt8->Option (List PF)
 | 0,_,_,_=>none
 | k+1,sg,acc,l=>match pstep sg l with
  | none=>none
  | some (x,[])=>some (acc++[x])
  | some (x,c::r)=>if c=32 then pfac k 1 (acc++[x]) r else if c=47 then pfac k (-1) (acc++[x]) r else none
def pprod (xs:List PF):Rat:=xs.foldl (fun a x=>a*((num? x.s.fac).getD 0) ^ x.exp) 1
def psum (xs:List PF):P7:=xs.foldl (fun a x=>a.plus x.exp x.s.p) ⟨0,0,0,0,0,0,0⟩
def pof (xs:List PF):Un×Int:=
 if xs.any (fun x=>x.s.off != [48]&&(decide (1<xs.length)||!x.bare))=true then (Un.none,10)
 else if 12<xs.length then (Un.none,4)
 else if xs.all (fun x=>wi x.exp)=true/\vU (put (pprod xs)) ((xs.head?.map (·.s.off)).getD []) (psum xs)=true then (⟨put (pprod xs),(xs.head?.map (·.s.off)).getD [],psum xs⟩,0)
 else (Un.none,4)
def punit (l:List UInt8):Un×Int:=if 1000<l.length then (Un.none,4) else match pfac (l.length+1) 1 [] l with
 | none=>(Un.none,10)
 | some xs=>pof xs
theorem yhg (c:UInt8) (w:World):Calls Tryz.prog 84 #[.int .u8 (c.toNat:Int)] w fun e w'=>e=.returned (.bool (isLow c))/\w=w':=by
 unfold isLow
 by_cases h1:97<=c.toNat
 ·by_cases h2:c.toNat<=122
  ·have g1:(97:Int)<=(c.toNat:Int):=by omega
   have g2:(c.toNat:Int)<=122:=by omega
   rw[decide_eq_true (And.intro h1 h2)]
   clear h1 h2
   go_enter Tryz.func84,Tryz.ntmps84
   go_wp2
   go_ret
   exact⟨rfl,rfl⟩
  ·have g1:(97:Int)<=(c.toNat:Int):=by omega
   have g2:¬(c.toNat:Int)<=122:=by omega
   rw[decide_eq_false (fun h=>h2 h.2)]
   clear h1 h2
   go_enter Tryz.func84,Tryz.ntmps84
   go_wp2
   go_ret
   exact⟨rfl,rfl⟩
 ·have g1:¬(97:Int)<=(c.toNat:Int):=by omega
  rw[decide_eq_false (fun h=>h1 h.1)]
  clear h1
  go_enter Tryz.func84,Tryz.ntmps84
  go_wp2
  go_ret
  exact⟨rfl,rfl⟩
theorem ym6 {l:List UInt8} (h:16<l.length):nameB l=false:=by
 unfold nameB
 rw[decide_eq_false (by omega)]
 rfl
theorem yns {c:UInt8} {l:List UInt8} (h:isLow c=false):nameB (c::l)=false:=by
 unfold nameB
 rw[List.head?_cons,Option.any_some,h]
 simp
theorem yse {l:List UInt8} {k:Nat} {c:UInt8} (hk:l[k]?=some c) (h:isNm c=false):nameB l=false:=by
 unfold nameB
 have:l.all isNm=false:=by
  cases ha:l.all isNm
  ·rfl
  ·rw[List.all_eq_true.1 ha c (List.mem_of_getElem? hk)] at h;cases h
 rw[this]
 simp
theorem yoi {c:UInt8} {l:List UInt8} (h1:(c::l).length<=16) (h2:isLow c=true) (h3:(c::l).all isNm=true):nameB (c::l)=true:=by
 unfold nameB
 rw[decide_eq_true h1,List.head?_cons,Option.any_some,h2,h3]
 rfl
theorem yq4 {p:UInt8->Bool} {l:List UInt8} {k:Nat} {c:UInt8} (h:(l.take k).all p=true) (hk:l[k]?=some c) (hc:p c=true):(l.take (k+1)).all p=true:=by
 rw[List.take_add_one,hk,List.all_append,h]
 simp[hc]
theorem yd4 (S:ByteArray) (hs:S.size<=9223372036854775807) (w:World):Calls Tryz.prog 36 #[.string S] w fun e w'=>e=.returned (.bool (nameB (bl S)))/\w=w':=by
 have sb:(S.size:Int)<=9223372036854775807:=by omega
 have LT:=fun c w'=>yhg c w'
 have hes:S.toList.isEmpty=decide (bl S=[]):=emptyS S
 obtain⟨X,hX⟩:∃ X,nameB (bl S)=X:=⟨_,rfl⟩
 rw[hX]
 cases hl:bl S with
 | nil=>
  rw[hl] at hes hX
  have hx:X=false:=hX.symm
  subst hx
  rw[decide_eq_true rfl] at hes
  clear hX hl
  go_enter Tryz.func36,Tryz.ntmps36
  go_wp2
  go_ret
  exact⟨rfl,rfl⟩
 | cons c0 l0=>
  have hlen:S.size=l0.length+1:=by rw[<- yag,hl];rfl
  have h0:0<S.size:=by omega
  have hi0:(0:Int)<(S.size:Int):=by omega
  have hc0:S[0]=c0:=by
   have:=bl_at S 0 h0
   rw[hl] at this
   injection this with this
   exact this.symm
  rw[hl,decide_eq_false (by simp)] at hes
  by_cases h16:16<S.size
  ·have g16:(16:Int)<(S.size:Int):=by omega
   rw[ym6 (by rw[yag];exact h16)] at hX
   subst hX
   clear hl hlen hc0 h16
   go_enter Tryz.func36,Tryz.ntmps36
   go_wp2
   go_ret
   exact⟨rfl,rfl⟩
  have g16:¬(16:Int)<(S.size:Int):=by omega
  have L0:=fun w'=>LT S[0] w'
  cases hlow:isLow S[0]
  ·rw[hlow] at L0
   rw[hl,yns (by rw[<- hc0];exact hlow)] at hX
   subst hX
   clear hl hlen hc0 h16 hlow LT
   go_enter Tryz.func36,Tryz.ntmps36
   go_wp2_with (go_at_call 84;(with_reducible refine(L0 _).mono ?_);rintro e w1 ⟨rfl,rfl⟩)
   go_ret
   exact⟨rfl,rfl⟩
  rw[hlow] at L0
  have HE:=zh (show (bl S).all isNm=true->X=true from fun h=>by
   rw[<- hX,hl]
   rw[hl] at h
   exact yoi (by rw[<- hl,yag];omega) (by rw[<- hc0];exact hlow) h)
  have HA:=zh (show ∀ k c,(bl S)[k]?=some c->isNm c=false->X=false from fun k c h1 h2=>by rw[<- hX];exact yse h1 h2)
  clear hX hl hlen hc0 hlow h16
  go_enter Tryz.func36,Tryz.ntmps36
  go_wp2_with (go_at_call 84;(with_reducible refine(L0 _).mono ?_);rintro e w1 ⟨rfl,rfl⟩)
  clear L0
  go_loopw [19] (fun i wr=>∃ k:Nat,k<=S.size/\i=.int .i64 (k:Int)/\w=wr/\Hid (((bl S).take k).all isNm=true)) (fun i _=>(S.size - intOf i).toNat)
  case atStart=>exact⟨0,Nat.zero_le _,rfl,rfl,zh rfl⟩
  case round=>
   obtain⟨k,hk,rfl,rfl,hA⟩:=hrel
   by_cases hkn:k=S.size
   ·subst hkn
    have hx:=HE.out (by have:=hA.out;rwa [List.take_of_length_le (by rw[yag];exact Nat.le_refl _)] at this)
    subst hx
    clear hA HA HE
    go_wp2
    go_ret
    exact⟨rfl,rfl⟩
   ·have hlt:k<S.size:=by omega
    have hi:(k:Int)<(S.size:Int):=by omega
    have hb:=bl_at S k hlt
    have Lk:=fun w'=>LT S[k] w'
    have HN:=zh (show isNm S[k]=true->((bl S).take (k+1)).all isNm=true from fun h=>yq4 hA.out hb h)
    have HF:=zh (HA.out k S[k] hb)
    have e0:isNm S[k]=(isLow S[k]||(S[k]==95||isD S[k])):=rfl
    cases hlow:isLow S[k]
    ·rw[hlow] at Lk e0
     by_cases h95:(S[k].toNat:Int)=95
     ·have HN2:=zh (HN.out (by rw[e0,(yau S[k] 95).1 h95];rfl))
      have L95:=fun w'=>(show Calls Tryz.prog 84 #[.int .u8 95] w' fun e w2=>e=.returned (.bool false)/\w'=w2 from yhg 95 w')
      clear HN HF e0 hlow hA hb Lk
      go_wp2_with (go_at_call 84;(with_reducible refine(L95 _).mono ?_);rintro e w1 ⟨rfl,rfl⟩)
      go_roundw
      case rel=>exact⟨k+1,by omega,by go_num,by first|rfl|trivial,HN2⟩
      case measure=>simp only[intOf];omega
     ·have h95b:((S[k].toNat:Int)==95)=false:=by rw[beq_eq_false_iff_ne];exact h95
      have e1:(S[k]==95)=false:=by rw[beq_eq_false_iff_ne];exact fun h=>h95 ((yau S[k] 95).2 h)
      rw[e1] at e0
      by_cases h48:(S[k].toNat:Int)<48
      ·have hx:=HF.out (by rw[e0];unfold isD;rw[decide_eq_false (by omega)];rfl)
       subst hx
       clear HN HF e0 e1 hlow hA hb HE HA
       go_wp2_with (go_at_call 84;(with_reducible refine(Lk _).mono ?_);rintro e w1 ⟨rfl,rfl⟩)
       go_ret
       exact⟨rfl,rfl⟩
      ·by_cases h57:(57:Int)<(S[k].toNat:Int)
       ·have hx:=HF.out (by rw[e0];unfold isD;rw[decide_eq_false (by omega)];rfl)
        subst hx
        clear HN HF e0 e1 hlow hA hb HE HA
        go_wp2_with (go_at_call 84;(with_reducible refine(Lk _).mono ?_);rintro e w1 ⟨rfl,rfl⟩)
        go_ret
        exact⟨rfl,rfl⟩
       ·have HN2:=zh (HN.out (by rw[e0];unfold isD;rw[decide_eq_true (by omega)];rfl))
        clear HN HF e0 e1 hlow hA hb
        go_wp2_with (go_at_call 84;(with_reducible refine(Lk _).mono ?_);rintro e w1 ⟨rfl,rfl⟩)
        go_roundw
        case rel=>exact⟨k+1,by omega,by go_num,by first|rfl|trivial,HN2⟩
        case measure=>simp only[intOf];omega
    ·rw[hlow] at Lk e0
     have HN2:=zh (HN.out (by rw[e0];rfl))
     clear HN HF e0 hlow hA hb
     go_wp2_with (go_at_call 84;(with_reducible refine(Lk _).mono ?_);rintro e w1 ⟨rfl,rfl⟩)
     go_roundw
     case rel=>exact⟨k+1,by omega,by go_num,by first|rfl|trivial,HN2⟩
     case measure=>simp only[intOf];omega
theorem yi1 (S:ByteArray) (w:World) :
  Calls Tryz.prog 197 #[.string S,.string ⟨#[48]⟩] w fun e w'=>e=.returned (.string ⟨((bl S).dropWhile (·==48)).toArray⟩)/\Below w.heap.size w w':=
 (Any.strings_TrimLeft_laid Tryz.lays161 Tryz.infoSetL S ⟨#[48]⟩ w (by decide) (ascii_of_all (by decide))).mono fun e w' ⟨h1,h2⟩=>⟨by
  rw[h1,show (S.data.toList:List UInt8)=bl S from rfl,show (⟨#[48]⟩:ByteArray).data.toList=[48] from rfl]
  have:Lib.trimLeftS (bl S) [48]=(bl S).dropWhile (·==48):=by
   unfold Lib.trimLeftS
   congr 1
   funext c
   rw[Bool.eq_iff_iff]
   simp
  rw[this],h2⟩
theorem yit {p:UInt8->Bool} (l:List UInt8):(l.dropWhile p).length<=l.length:=by
 induction l with
 | nil=>simp
 | cons a l ih=>rw[List.dropWhile_cons];split<;>simp;omega
theorem ypp {p:UInt8->Bool} {l:List UInt8} (h:allD l=true):allD (l.dropWhile p)=true:=by
 unfold allD at *
 rw[List.all_eq_true] at *
 exact fun x hx=>h x (List.dropWhile_subset _ hx)
theorem yoa (l:List UInt8):allD (l.take (cnt l))=true:=by
 unfold allD cnt
 have:l.take (l.takeWhile isD).length=l.takeWhile isD:=by
  have h:=List.take_left (l₁:=l.takeWhile isD) (l₂:=l.dropWhile isD)
  rw[List.takeWhile_append_dropWhile] at h
  exact h
 rw[this]
 exact List.all_takeWhile
def expV (o:Option (Int×Nat)):Value:=match o with
 | some (n,k)=>.tuple #[.int .i64 n,.int .i64 (k:Int),.bool true]
 | none=>.tuple #[.int .i64 0,.int .i64 0,.bool false]
theorem yjn (S:ByteArray) (hs:S.size<=1000) (w:World) (hw:Wf w):Calls Tryz.prog 167 #[.string S] w fun e w'=>e=.returned (expV (pexp (bl S)))/\Below w.heap.size w w':=by
 have CN:=fun w=>ycc S w
 have hRs:(body (bl S)).length<=1000:=Nat.le_trans (yfc _) (by rw[yag];exact hs)
 obtain⟨X,hX⟩:∃ X,pexp (bl S)=X:=⟨_,rfl⟩
 rw[hX]
 unfold pexp at hX
 generalize isNeg (bl S)=neg at *
 obtain⟨R,hR⟩:∃ R:ByteArray,(⟨(body (bl S)).toArray⟩:ByteArray)=R:=⟨_,rfl⟩
 have hb:body (bl S)=bl R:=by rw[<- hR];rfl
 rw[hR] at CN
 rw[hb] at hRs hX
 clear hb hR
 have hn:=ygr (bl R)
 have T1:=fun w=>yfy R w
 have T2:=fun w=>yi1 (R.extract 0 (cnt (bl R))) w
 have hcut:bl (R.extract 0 (cnt (bl R)))=(bl R).take (cnt (bl R)):=by rw[yc1];simp
 rw[hcut] at T2
 have hZ:((bl R).take (cnt (bl R))).dropWhile (·==48)=((bl R).take (cnt (bl R))).dropWhile (·==48):=rfl
 have hZl:=yit (p:=(·==48)) ((bl R).take (cnt (bl R)))
 have hZd:=ypp (p:=(·==48)) (yoa (bl R))
 rw[List.length_take] at hZl
 rw[yag] at hn hRs
 generalize ((bl R).take (cnt (bl R))).dropWhile (·==48)=z at *
 generalize hc:cnt (bl R)=n at *
 clear hZ hc hcut
 obtain⟨Z,hZ⟩:∃ Z:ByteArray,(⟨z.toArray⟩:ByteArray)=Z:=⟨_,rfl⟩
 have hzb:z=bl Z:=by rw[<- hZ];rfl
 rw[hZ] at T2
 dsimp only at hX
 rw[hzb] at hX hZl hZd
 rw[yag] at hX hZl
 clear hzb hZ
 have sb:(R.size:Int)<=1000:=by omega
 have nb:(n:Int)<=(R.size:Int):=by omega
 have zb:(Z.size:Int)<=1000:=by omega
 by_cases h0:n=0
 ·rw[if_pos h0] at hX
  subst h0 hX
  clear T2 hZd hZl
  go_enter Tryz.func167,Tryz.ntmps167
  go_wp2_with (first
   | (go_at_call 34;refine(CN _).mono ?_;rintro e w1 ⟨rfl,rfl⟩)
   | (go_at_call 197;refine(T1 _).mono ?_;rintro e w1 ⟨T1,rfl,hT,hb⟩;have B1:=zh hb;clear hb))
  go_ret3
  exact⟨rfl,B1.out⟩
 rw[if_neg h0] at hX
 have hA:=fun w hw=>(ymm (⟨#[48]⟩++Z) (by rw[ByteArray.size_append];show 1+_<=_;omega) w hw)
 have h0':¬(n:Int)=0:=by omega
 have ext:∀ T:ByteArray,(T.size:Int)=(R.size:Int) - (n:Int)->(R.size:Int) - (T.size:Int)=(n:Int):=fun T h=>by omega
 by_cases h2:Z.size<=2
 ·rw[if_pos h2] at hX
  have h2':(Z.size:Int)<=2:=by omega
  have hv:val (bl (⟨#[48]⟩++Z))=val (bl Z):=by
   rw[ydq,show bl ⟨#[48]⟩=[48] from rfl,yeh]
   show 0*_+_=_
   omega
  have AT:=fun w hw=>(hA w hw).mono fun e w' (⟨v,ev,h1,_,_,h3,_,h4⟩:AtoiQ _ _ _ _)=>(show ∃ ev,e=Ending.returned (.tuple #[.int .i64 (val (bl Z):Int),ev])/\Below w.heap.size w w' from⟨ev,by rw[h1,h3 (by rw[ydq,yat,hZd];rfl) (by rw[ydq];simp[show bl ⟨#[48]⟩=[48] from rfl]) (by rw[ByteArray.size_append];show 1+_<=_;omega),hv],h4⟩)
  have hval:val (bl Z)<=99:=by
   have:=yft (bl Z) hZd
   rw[yag] at this
   have h3:(10:Nat) ^ Z.size<=10 ^ 2:=Nat.pow_le_pow_right (by decide) h2
   omega
  have hvb:(val (bl Z):Int)<=99:=by omega
  clear hA hv hZd hZl hval
  generalize val (bl Z)=v at *
  have HX:=zh hX
  clear hX h0 h2
  cases neg
  all_goals
   go_enter Tryz.func167,Tryz.ntmps167
   go_wp2_with (first
    | (go_at_call 137;refine(AT _ (hw.up B2.out)).mono ?_;rintro e w3 ⟨ev,rfl,hb⟩;have B3:=zh (yac B2.out hb);clear hb)
    | (go_at_call 34;refine(CN _).mono ?_;rintro e w1 ⟨rfl,rfl⟩)
    | (go_at_call 197;((with_reducible refine(T1 _).mono ?_);rintro e w1 ⟨T3,rfl,hT,hb⟩;have B1:=zh hb;have e1:=ext _ hT;clear hb hT))
    | (go_at_call 197;((with_reducible refine(T2 _).mono ?_);rintro e w2 ⟨rfl,hb⟩;have B2:=zh (yac B1.out hb);clear hb)))
   go_ret3
   exact⟨by rw[<- HX.out];rfl,B3.out⟩
 ·rw[if_neg h2] at hX
  have h2':¬(Z.size:Int)<=2:=by omega
  have HX:=zh hX
  clear hX h0 h2 hA hZd hZl
  cases neg
  all_goals
   go_enter Tryz.func167,Tryz.ntmps167
   go_wp2_with (first
    | (go_at_call 34;refine(CN _).mono ?_;rintro e w1 ⟨rfl,rfl⟩)
    | (go_at_call 197;((with_reducible refine(T1 _).mono ?_);rintro e w1 ⟨T3,rfl,hT,hb⟩;have B1:=zh hb;have e1:=ext _ hT;clear hb hT))
    | (go_at_call 197;((with_reducible refine(T2 _).mono ?_);rintro e w2 ⟨rfl,hb⟩;have B2:=zh (yac B1.out hb);clear hb)))
   go_ret3
   exact⟨by rw[<- HX.out];rfl,B2.out⟩
theorem yal {w w':World} {base m n:Nat} {e:TypeId} {v:Value} {xs:List Value} (h:w.ownsRow base e m v n xs) (hb:Below w.heap.size w w'):w'.ownsRow base e m v n xs:=by
 obtain⟨h1,h2⟩:=h
 refine⟨h1,?_⟩
 rcases h2 with h2|⟨g,cap,cur,e1,e2,e3,e4⟩
 ·exact .inl h2
 ·have hg:g<w.heap.size:=(Array.getElem?_eq_some_iff.1 e3).1
  exact .inr ⟨g,cap,cur,e1,e2,(hb.block g hg).trans e3,e4⟩
theorem yc0 {w0 w w':World} {n m:Nat} {e:TypeId} {v:Value} {xs:List Value} (h:w.ownsRow w0.heap.size e m v n xs) (hb:Below w0.heap.size w0 w) (hg:w.grownBy w' v.ownBlock):Below w0.heap.size w0 w':=by
 refine⟨hg.os.trans hb.os,hg.tape.trans hb.tape,hg.output.trans hb.output,Nat.le_trans hb.size hg.size,fun k hk=>?_⟩
 refine(hg.block k (Nat.lt_of_lt_of_le hk hb.size) (fun e1=>?_)).trans (hb.block k hk)
 rcases h.2 with ⟨rfl,_⟩|⟨g,cap,cur,rfl,hge,_⟩
 ·cases e1
 ·have:k=g:=by simpa[Value.ownBlock] using e1
  omega
theorem ypw {w:World} {base m n g cap:Nat} {e:TypeId} {xs:List Value} (h:w.ownsRow base e m (.slice (some ⟨g,0,none⟩) n cap) n xs) {j:Nat} {u:Value} (hj:xs[j]?=some u):w.cell? ⟨g,j,none⟩=some u:=by
 have:=h.cells (g:=g) rfl j u hj
 rcases Nat.eq_zero_or_pos j with h0|h0
 ·subst h0;simpa[Addr.add] using this
 ·have h1:j≠0:=by omega
  simpa[Addr.add,h1] using this
theorem yol {w:World} {base m n:Nat} {e:TypeId} {v:Value} {xs:List Value} (h:w.ownsRow base e m v n xs) (hn:0<n):∃ g cap,v=.slice (some ⟨g,0,none⟩) n cap/\g<w.heap.size/\base<=g/\n<=cap:=by
 rcases h.2 with ⟨_,h0⟩|⟨g,cap,cur,e1,e2,e3,e4,_⟩
 ·omega
 ·exact⟨g,cap,e1,(Array.getElem?_eq_some_iff.1 e3).1,e2,e4⟩
theorem Bk.put_mid {g:Nat} {t:TypeId} (l:List Value):∀ {w:World} (pre old post:List Value),Bk w g (pre++old++post).toArray t->old.length=l.length->Bk (putL w g pre.length l) g (pre++l++post).toArray t:=by
 induction l with
 | nil=>intro w pre old post h e;rw[List.length_eq_zero_iff.1 e] at h;exact h
 | cons v l ih=>
  intro w pre old post h e
  cases old with
  | nil=>cases e
  | cons o old=>
   have h2:=h.set (i:=pre.length) v
   have e2:(pre++o::old++post).toArray.setIfInBounds pre.length v=((pre++[v])++old++post).toArray:=by
    rw[List.setIfInBounds_toArray]
    congr 1
    rw[List.append_assoc,List.set_append_right _ _ (Nat.le_refl _),Nat.sub_self,List.cons_append,List.set_cons_zero,List.append_assoc,List.append_assoc]
    rfl
   rw[e2] at h2
   have h3:=ih (pre++[v]) old post h2 (by simpa using e)
   have e3:(pre++[v])++l++post=pre++v::l++post:=by simp
   rw[e3,List.length_append] at h3
   exact h3
theorem tNoP {Q:Exit->Act->World->Prop} {a:Act} {w:World} (h:Q .normal a w):NoPanic Q .normal a w:=h
theorem row3 {w:World} {h:Nat} {a b c:Value} (k:w.cell? ⟨h,0,none⟩=some a/\w.cell? ⟨h,1,none⟩=some b/\w.cell? ⟨h,2,none⟩=some c):w.rangeAt h 0 [a,b,c]:=by
 obtain⟨k0,k1,k2⟩:=k
 intro j v hj
 rw[Nat.zero_add]
 match j,hj with
 | 0,hj=>injection hj with hj;rw[<- hj];exact k0
 | 1,hj=>injection hj with hj;rw[<- hj];exact k1
 | 2,hj=>injection hj with hj;rw[<- hj];exact k2
theorem row4 {w:World} {h:Nat} {a0 a1 a2 a3:Value} (k:w.cell? ⟨h,0,none⟩=some a0/\w.cell? ⟨h,1,none⟩=some a1/\w.cell? ⟨h,2,none⟩=some a2/\w.cell? ⟨h,3,none⟩=some a3):w.rangeAt h 0 [a0,a1,a2,a3]:=by
 obtain⟨k0,k1,k2,k3⟩:=k
 intro j v hj
 rw[Nat.zero_add]
 match j,hj with
 | 0,hj=>injection hj with hj;rw[<- hj];exact k0
 | 1,hj=>injection hj with hj;rw[<- hj];exact k1
 | 2,hj=>injection hj with hj;rw[<- hj];exact k2
 | 3,hj=>injection hj with hj;rw[<- hj];exact k3
theorem row8 {w:World} {h:Nat} {a0 a1 a2 a3 a4 a5 a6 a7:Value} (k:w.cell? ⟨h,0,none⟩=some a0/\w.cell? ⟨h,1,none⟩=some a1/\w.cell? ⟨h,2,none⟩=some a2/\w.cell? ⟨h,3,none⟩=some a3/\w.cell? ⟨h,4,none⟩=some a4/\w.cell? ⟨h,5,none⟩=some a5/\w.cell? ⟨h,6,none⟩=some a6/\w.cell? ⟨h,7,none⟩=some a7):w.rangeAt h 0 [a0,a1,a2,a3,a4,a5,a6,a7]:=by
 obtain⟨k0,k1,k2,k3,k4,k5,k6,k7⟩:=k
 intro j v hj
 rw[Nat.zero_add]
 match j,hj with
 | 0,hj=>injection hj with hj;rw[<- hj];exact k0
 | 1,hj=>injection hj with hj;rw[<- hj];exact k1
 | 2,hj=>injection hj with hj;rw[<- hj];exact k2
 | 3,hj=>injection hj with hj;rw[<- hj];exact k3
 | 4,hj=>injection hj with hj;rw[<- hj];exact k4
 | 5,hj=>injection hj with hj;rw[<- hj];exact k5
 | 6,hj=>injection hj with hj;rw[<- hj];exact k6
 | 7,hj=>injection hj with hj;rw[<- hj];exact k7
theorem tCall {P:Program} {o:Oper} {a:Act} {w:World} {Q:Exit->Act->World->Prop} {K:Act->World->Prop} (f:FuncId) (args:Array Value) (hrun:(execOp a.eval o).run P w=.ok (.enter f args) w) {R:Ending->World->Prop} (hc:Calls P f args w R)
  (h:∀ e w'',R e w''->∃ v,e=.returned v/\K (a.put o.dst v) w''):o.wp P a w K Q:=by
 unfold Oper.wp
 rw[hrun,Oper.upon_enter]
 refine hc.mono fun e w'' hh=>?_
 obtain⟨v,rfl,hk⟩:=h e w'' hh
 exact hk
def tOk (md:Region.Mode) (ops:Array Oper) (listed:Array Bool) (i d:Nat) (a:Act) (want:Bool):Bool:=
 Region.noSelect ops&&(Region.free md ops listed i&&((Region.ready md ops listed).contains i&&match ops[i]? with
  | some o=>decide (o.dst=some d)&&(Region.wanted o (yielded ops a.tmps)==want)
  | none=>false))
theorem yfr {md:Region.Mode} {ops:Array Oper} {listed:Array Bool} {i d:Nat} {a:Act} {want:Bool} (h:tOk md ops listed i d a want=true):Region.noSelect ops=true/\Region.free md ops listed i=true/\(Region.ready md ops listed).contains i=true/\∃ o,ops[i]?=some o/\o.dst=some d/\Region.wanted o (yielded ops a.tmps)=want:=by
 unfold tOk at h
 rw[Bool.and_eq_true,Bool.and_eq_true,Bool.and_eq_true] at h
 obtain⟨h1,h2,h3,h4⟩:=h
 refine⟨h1,h2,h3,?_⟩
 cases ho:ops[i]? with
 | none=>rw[ho] at h4;cases h4
 | some o=>
  rw[ho] at h4
  simp only[Bool.and_eq_true,decide_eq_true_eq,beq_iff_eq] at h4
  exact⟨o,rfl,h4.1,h4.2⟩
theorem tNo {P:Program} {md:Region.Mode} {ops:Array Oper} {Q:Exit->Act->World->Prop} {S:World->Prop} {fuel:Nat} {listed:Array Bool} {a:Act} {w:World} (i d:Nat) (hS:S w) (hc:tOk md ops listed i d a false=true)
  (h:wpAnyH P md ops (NoPanic Q) S fuel (listed.setIfInBounds i true) (a.put (some d) undef) w):wpAnyH P md ops (NoPanic Q) S (fuel+1) listed a w:=by
 obtain⟨h1,h2,h3,o,ho,hd,hw⟩:=yfr hc
 rw[<- hd] at h
 exact wpAnyH_take ho h1 h2 h3 (fun _ _ _ h=>h) (Or.inr ⟨hw,rfl⟩) hS h
theorem tVal {P:Program} {md:Region.Mode} {ops:Array Oper} {Q:Exit->Act->World->Prop} {S:World->Prop} {fuel:Nat} {listed:Array Bool} {a:Act} {w:World} (i d:Nat) (v:Value) (hS:S w) (hc:tOk md ops listed i d a true=true)
  (hv:∀ w',S w'->(ops[i]?.map fun o=>(execOp a.eval o).run P w')=some (.ok (.value v) w'))
  (h:wpAnyH P md ops (NoPanic Q) S fuel (listed.setIfInBounds i true) (a.put (some d) v) w):wpAnyH P md ops (NoPanic Q) S (fuel+1) listed a w:=by
 obtain⟨h1,h2,h3,o,ho,hd,hw⟩:=yfr hc
 rw[<- hd] at h
 refine wpAnyH_take ho h1 h2 h3 (fun _ _ _ h=>h) (Or.inl ⟨hw,fun w' hw'=>?_⟩) hS h
 have:=hv w' hw'
 rw[ho,Option.map_some,Option.some.injEq] at this
 exact this
theorem tLoad {P:Program} {md:Region.Mode} {ops:Array Oper} {Q:Exit->Act->World->Prop} {S:World->Prop} {fuel:Nat} {listed:Array Bool} {a:Act} {w:World} (i d:Nat) (ty:TypeId) (x:Operand) (b o:Nat) (cs:List Value) (hS:S w) (hc:tOk md ops listed i d a true=true)
  (ho:(ops[i]?.map fun o=>o.op)=some (.load ty x)) (hx:a.eval x=.pointer (some ⟨b,o,none⟩)) (hr:∀ w,S w->w.rangeAt b o cs) {ds:TypeDesc} (hu:P.underlying ty=some ds) (hd:ds.isRow=true) (hi:(P.info? ty).map (·.size)=some cs.length)
  (h:wpAnyH P md ops (NoPanic Q) S fuel (listed.setIfInBounds i true) (a.put (some d) (.agg cs.toArray)) w):wpAnyH P md ops (NoPanic Q) S (fuel+1) listed a w:=by
 obtain⟨h1,h2,h3,op,hop,hdd,hw⟩:=yfr hc
 rw[<- hdd] at h
 rw[hop,Option.map_some,Option.some.injEq] at ho
 exact wpAnyH_take hop h1 h2 h3 (fun _ _ _ h=>h) (yieldsIf_load_mid hw ty x ho b o hx cs ds hr hu hd hi) hS h
theorem tEnter {P:Program} {md:Region.Mode} {ops:Array Oper} {Q:Exit->Act->World->Prop} {S:World->Prop} {fuel:Nat} {listed:Array Bool} {a:Act} {w:World} (i d:Nat) (f:FuncId) (args:Array Value) (hr:Region.ready md ops listed=[i])
  (hc:(ops[i]?.map fun o=>(o.dst,Region.wanted o (yielded ops a.tmps)))=some (some d,true)) (hrun:(ops[i]?.map fun o=>(execOp a.eval o).run P w)=some (.ok (.enter f args) w)) {R:Ending->World->Prop} (hR:Calls P f args w R)
  (h:∀ e w'',R e w''->∃ v,e=.returned v/\S w''/\(S w''->wpAnyH P md ops Q S fuel (listed.setIfInBounds i true) (a.put (some d) v) w'')):wpAnyH P md ops Q S (fuel+1) listed a w:=by
 cases ho:ops[i]? with
 | none=>rw[ho] at hc;cases hc
 | some o=>
  rw[ho,Option.map_some,Option.some.injEq] at hc hrun
  injection hc with hd hw
  refine wpAnyH_ready hr (by simp) (AllReadyH.cons ho (fun K hK=>?_) AllReadyH.nil)
  rw[if_pos hw]
  refine tCall f args hrun hR (fun e w'' hh=>?_)
  obtain⟨v,he,hS,hW⟩:=h e w'' hh
  exact⟨v,he,by rw[hd];exact hK.out _ _ hS hW⟩
abbrev Stp:=Nat×Nat×Option Value
def runL:List Stp->Array Bool->Array Bool
 | [],l=>l
 | s::r,l=>runL r (l.setIfInBounds s.1 true)
def runA:List Stp->Act->Act
 | [],a=>a
 | (_,d,none)::r,a=>runA r (a.put (some d) undef)
 | (_,d,some v)::r,a=>runA r (a.put (some d) v)
def noR (i d:Nat):Nat->List Stp->List Stp
 | 0,r=>r
 | n+1,r=>(i,d,none)::noR (i+1) (d+1) n r
def runF:List Stp->Nat->Nat
 | [],n=>n
 | _::r,n=>runF r n+1
def stpGot (P:Program) (md:Region.Mode) (ops:Array Oper) (T:Array Bool->Nat->Bool):List Stp->Array Bool->Act->World->List (Bool×Option (Result Next))
 | [],_,_,_=>[]
 | s::r,l,a,w=>(tOk md ops l s.1 s.2.1 a s.2.2.isSome&&T l s.1,s.2.2.bind fun _=>ops[s.1]?.map fun o=>(execOp a.eval o).run P w)::stpGot P md ops T r (l.setIfInBounds s.1 true) (a.put (some s.2.1) (s.2.2.getD undef)) w
def stpWant:List Stp->World->List (Bool×Option (Result Next))
 | [],_=>[]
 | s::r,w=>(true,s.2.2.map fun v=>.ok (.value v) w)::stpWant r w
theorem tRun {P:Program} {md:Region.Mode} {ops:Array Oper} {Q:Exit->Act->World->Prop} {S:World->Prop} {fuel:Nat}:∀ (ss:List Stp) {listed:Array Bool} {a:Act} {w:World},S w->stpGot P md ops (fun _ _=>true) ss listed a=stpWant ss->
  wpAnyH P md ops (NoPanic Q) S fuel (runL ss listed) (runA ss a) w->wpAnyH P md ops (NoPanic Q) S (runF ss fuel) listed a w
 | [],_,_,_,_,_,h=>h
 | (i,d,none)::r,l,a,w,hS,hc,h=>by
  have ht:=tRun r hS (funext fun w'=>(List.cons.inj (congrFun hc w')).2) h
  have h1:=congrArg Prod.fst (List.cons.inj (congrFun hc w)).1
  exact tNo i d hS (by simpa using h1) ht
 | (i,d,some v)::r,l,a,w,hS,hc,h=>by
  have ht:=tRun r hS (funext fun w'=>(List.cons.inj (congrFun hc w')).2) h
  have h1:=congrArg Prod.fst (List.cons.inj (congrFun hc w)).1
  exact tVal i d v hS (by simpa using h1) (fun w' _=>congrArg Prod.snd (List.cons.inj (congrFun hc w')).1) ht
def P7.small (p:P7):Prop:=(-3<=p.a/\p.a<=3)/\(-3<=p.b/\p.b<=3)/\(-3<=p.c/\p.c<=3)/\(-3<=p.d/\p.d<=3)/\(-3<=p.e/\p.e<=3)/\(-3<=p.f/\p.f<=3)/\(-3<=p.g/\p.g<=3)
def Sy.good (y:Sy):Prop:=(∃ f,num? y.fac=some f/\0<f)/\(∃ o,num? y.off=some o)/\y.p.small
def numPos (l:List UInt8):Bool:=match num? l with
 | some f=>decide (0<f)
 | none=>false
theorem yhc {l:List UInt8} (h:numPos l=true):∃ f,num? l=some f/\0<f:=by
 unfold numPos at h
 cases hn:num? l with
 | none=>rw[hn] at h;cases h
 | some f=>rw[hn] at h;exact⟨f,rfl,of_decide_eq_true h⟩
def prefs:List (List UInt8):=[[49,47,49,48,48,48,48,48,48,48,48,48],[49,47,49,48,48,48,48,48,48],[49,47,49,48,48,48],[49,47,49,48,48],[49,47,49,48],[49,48,48],[49,48,48,48],[49,48,48,48,48,48,48],[49,48,48,48,48,48,48,48,48,48]]
theorem ytd {c:UInt8} {b:List UInt8} (h:pfx c=some b):b ∈ prefs:=by
 unfold pfx at h
 repeat' split at h
 all_goals (cases h;try decide)
theorem yrb:∀ s ∈ syms,numPos s.fac=true:=by decide +kernel
theorem yll:∀ s ∈ syms,(num? s.off).isSome=true:=by decide +kernel
theorem ymb:∀ s ∈ syms,(-3<=s.p.a/\s.p.a<=3)/\(-3<=s.p.b/\s.p.b<=3)/\(-3<=s.p.c/\s.p.c<=3)/\(-3<=s.p.d/\s.p.d<=3)/\(-3<=s.p.e/\s.p.e<=3)/\(-3<=s.p.f/\s.p.f<=3)/\(-3<=s.p.g/\s.p.g<=3):=by decide +kernel
theorem yri:∀ s ∈ syms,∀ b ∈ prefs,numPos (bin dMul s.fac b)=true:=by decide +kernel
theorem ylx {α:Type} {p:α->Bool} {l:List α} {s:α} (h:l.find? p=some s):s ∈ l:=List.mem_of_find?_eq_some h
theorem ynm {l:List UInt8} {y:Sy} (h:sfind l=some y):y.good:=by
 unfold sfind at h
 cases h1:syms.find? (fun s=>s.name==l) with
 | some s=>
  rw[h1] at h
  injection h with h
  subst h
  have hm:=ylx h1
  exact⟨yhc (yrb _ hm),Option.isSome_iff_exists.1 (yll _ hm),ymb _ hm⟩
 | none=>
  rw[h1] at h
  dsimp only at h
  split at h
  ·cases h
  ·cases h2:pfx (l.headD 0) with
   | none=>rw[h2] at h;cases h
   | some b=>
    rw[h2] at h
    dsimp only at h
    cases h3:syms.find? (fun s=>s.pre&&s.name==l.tail) with
    | none=>rw[h3] at h;cases h
    | some s=>
     rw[h3] at h
     injection h with h
     subst h
     have hm:=ylx h3
     exact⟨yhc (yri s hm _ (ytd h2)),Option.isSome_iff_exists.1 (yll s hm),ymb s hm⟩
theorem yro {l:List UInt8} (h:0<cnt l):∃ c r,l=c::r/\isD c=true:=by
 cases l with
 | nil=>exact absurd h (by decide)
 | cons c r=>
  refine⟨c,r,rfl,?_⟩
  cases hc:isD c
  ·unfold cnt at h
   rw[List.takeWhile_cons,hc] at h
   simp at h
  ·rfl
theorem yr5 {l:List UInt8} (h:0<numb l):0<cnt l:=by
 unfold numb at h
 split at h
 ·rename_i h1;exact h1.1
 ·exact h
theorem yte {l:List UInt8} {q:Rat} (hn:isNeg l=false) (h:frm l=some q):0<=q:=by
 have key:∀ n d:Nat,(0:Rat)<=mkRat (sg false n) d:=fun n d=>by
  have h0:ngt (mkRat (sg false n) d)=false:=by
   rcases Nat.eq_zero_or_pos d with h0|h0
   ·subst h0;rw[Rat.mkRat_zero];rfl
   ·rcases Nat.eq_zero_or_pos n with h1|h1
    ·subst h1;rw[ygv];rfl
    ·exact yij (by omega) (by omega)
  refine Rat.not_lt.1 (fun h=>?_)
  rw[Rat.lt_iff] at h
  unfold ngt at h0
  have h2:=of_decide_eq_false h0
  simp at h
  exact h2 h
 unfold frm at h
 rw[hn] at h
 split at h
 ·cases h
 ·split at h
  ·injection h with h;rw[<- h];exact key _ _
  ·split at h
   ·cases h
   ·split at h
    ·injection h with h;rw[<- h];exact key _ _
    ·split at h
     ·split at h
      ·cases h
      ·injection h with h;rw[<- h];exact key _ _
     ·cases h
theorem yqe:num? [48]=some 0:=by decide +kernel
theorem ym0:P7.small ⟨0,0,0,0,0,0,0⟩:=by unfold P7.small;decide
theorem ynk {sg:Int} {l r:List UInt8} {x:PF} (h:pstep sg l=some (x,r)):x.s.good:=by
 unfold pstep at h
 split at h
 ·rename_i hn
  cases hf:frm (l.take (numb l)) with
  | none=>rw[hf] at h;cases h
  | some q=>
   rw[hf] at h
   dsimp only at h
   split at h
   ·rename_i hq
    injection h with h
    injection h with h _
    subst h
    have hneg:isNeg (l.take (numb l))=false:=by
     obtain⟨c,r,rfl,hc⟩:=yro (yr5 hn)
     obtain⟨n,hn'⟩:∃ n,numb (c::r)=n+1:=⟨numb (c::r) - 1,by omega⟩
     rw[hn',List.take_succ_cons]
     unfold isNeg
     cases h45:(c==45)
     ·simp at h45
      simpa using h45
     ·simp at h45
      subst h45
      cases hc
    have h0:=yte hneg hf
    refine⟨⟨q,ycf.2 ⟨rfl,hq.1⟩,?_⟩,⟨0,yqe⟩,ym0⟩
    rcases Rat.le_iff_lt_or_eq.1 h0 with h1|h1
    ·exact h1
    ·exact absurd h1.symm hq.2
   ·cases h
 ·cases hf:sfind (l.take (wrd l)) with
  | none=>rw[hf] at h;cases h
  | some y=>
   rw[hf] at h
   dsimp only at h
   have hy:=ynm hf
   split at h
   ·cases hp:pexp (l.drop (wrd l)).tail with
    | none=>rw[hp] at h;cases h
    | some en=>
     rw[hp] at h
     injection h with h
     injection h with h _
     subst h
     exact hy
   ·injection h with h
    injection h with h _
    subst h
    exact hy
theorem ygx:∀ {k:Nat} {sg:Int} {acc:List PF} {l:List UInt8} {xs:List PF},(∀ x ∈ acc,x.s.good)->pfac k sg acc l=some xs->(∀ x ∈ xs,x.s.good)/\xs≠[]
 | 0,_,_,_,_,_,h=>by cases h
 | k+1,sg,acc,l,xs,ha,h=>by
  rw[pfac] at h
  cases hp:pstep sg l with
  | none=>rw[hp] at h;cases h
  | some xr=>
   obtain⟨x,r⟩:=xr
   rw[hp] at h
   have hg:=ynk hp
   have ha2:∀ y ∈ acc++[x],y.s.good:=fun y hy=>by
    rcases List.mem_append.1 hy with hy|hy
    ·exact ha y hy
    ·rw[List.mem_singleton.1 hy];exact hg
   cases r with
   | nil=>
    injection h with h
    subst h
    exact⟨ha2,by simp⟩
   | cons c r=>
    dsimp only at h
    split at h
    ·exact ygx ha2 h
    ·split at h
     ·exact ygx ha2 h
     ·cases h
theorem yho {xs:List PF} {k:Nat} {x:PF} {f:Rat} (h:xs[k]?=some x) (hf:num? x.s.fac=some f):pprod (xs.take (k+1))=pprod (xs.take k)*f ^ x.exp:=by
 unfold pprod
 rw[List.take_add_one,h,List.foldl_append]
 show _*((num? x.s.fac).getD 0) ^ x.exp=_
 rw[hf]
 rfl
theorem yi6 {xs:List PF} {k:Nat} {x:PF} (h:xs[k]?=some x):psum (xs.take (k+1))=(psum (xs.take k)).plus x.exp x.s.p:=by
 unfold psum
 rw[List.take_add_one,h,List.foldl_append]
 rfl
theorem yr4 {xs:List PF} (hA:xs.any (fun x=>x.s.off != [48]&&(decide (1<xs.length)||!x.bare))=false) (h:12<xs.length):pof xs=(Un.none,4):=by
 unfold pof
 rw[if_neg (by rw[hA];decide),if_pos h]
theorem yt1 {xs:List PF} {k:Nat} {x:PF} (hA:xs.any (fun x=>x.s.off != [48]&&(decide (1<xs.length)||!x.bare))=false) (h:¬12<xs.length) (hx:xs[k]?=some x) (he:wi x.exp=false):pof xs=(Un.none,4):=by
 unfold pof
 rw[if_neg (by rw[hA];decide),if_neg h,if_neg]
 rintro⟨h1,_⟩
 have:=List.all_eq_true.1 h1 x (List.mem_of_getElem? hx)
 rw[he] at this
 cases this
theorem ysr {xs:List PF} {x0:PF} (hA:xs.any (fun x=>x.s.off != [48]&&(decide (1<xs.length)||!x.bare))=false) (h:¬12<xs.length) (he:∀ x ∈ xs,wi x.exp=true) (h0:xs[0]?=some x0) :
  pof xs=if vU (put (pprod xs)) x0.s.off (psum xs)=true then (⟨put (pprod xs),x0.s.off,psum xs⟩,0) else (Un.none,4):=by
 have hh:(xs.head?.map (·.s.off)).getD []=x0.s.off:=by
  cases xs with
  | nil=>cases h0
  | cons y l=>injection h0 with h0;rw[<- h0];rfl
 unfold pof
 rw[if_neg (by rw[hA];decide),if_neg h,hh]
 by_cases hv:vU (put (pprod xs)) x0.s.off (psum xs)=true
 ·rw[if_pos ⟨List.all_eq_true.2 he,hv⟩,if_pos hv]
 ·rw[if_neg (fun h=>hv h.2),if_neg hv]
def P7.le (p:P7) (B:Int):Prop:=(-B<=p.a/\p.a<=B)/\(-B<=p.b/\p.b<=B)/\(-B<=p.c/\p.c<=B)/\(-B<=p.d/\p.d<=B)/\(-B<=p.e/\p.e<=B)/\(-B<=p.f/\p.f<=B)/\(-B<=p.g/\p.g<=B)
theorem yc6 {n x:Int} (hn : -12<=n/\n<=12) (hx : -3<=x/\x<=3) : -36<=n*x/\n*x<=36:=by
 obtain⟨a,b⟩:=hn
 obtain⟨c,d⟩:=hx
 rcases (show x = -3\/x = -2\/x = -1\/x=0\/x=1\/x=2\/x=3 by omega) with h|h|h|h|h|h|h<;>subst h<;>omega
theorem P7.le_plus {p q:P7} {n B:Int} (h:p.le B) (hn : -12<=n/\n<=12) (hq:q.small):(p.plus n q).le (B+36):=by
 obtain⟨⟨a0,a1⟩,⟨b0,b1⟩,⟨c0,c1⟩,⟨d0,d1⟩,⟨e0,e1⟩,⟨f0,f1⟩,⟨g0,g1⟩⟩:=h
 obtain⟨ha,hb,hc,hd,he,hf,hg⟩:=hq
 have h1:=yc6 hn ha
 have h2:=yc6 hn hb
 have h3:=yc6 hn hc
 have h4:=yc6 hn hd
 have h5:=yc6 hn he
 have h6:=yc6 hn hf
 have h7:=yc6 hn hg
 unfold P7.le P7.plus
 dsimp only
 refine⟨⟨?_,?_⟩,⟨?_,?_⟩,⟨?_,?_⟩,⟨?_,?_⟩,⟨?_,?_⟩,⟨?_,?_⟩,⟨?_,?_⟩⟩<;>omega
theorem yn6 {xs:List PF} (hg:∀ x ∈ xs,x.s.good):∀ {k:Nat},k<=xs.length->(∀ x ∈ xs.take k,wi x.exp=true)->(psum (xs.take k)).le (36*k)
 | 0,_,_=>by
  rw[List.take_zero]
  refine⟨⟨?_,?_⟩,⟨?_,?_⟩,⟨?_,?_⟩,⟨?_,?_⟩,⟨?_,?_⟩,⟨?_,?_⟩,⟨?_,?_⟩⟩<;>decide
 | k+1,hk,he=>by
  obtain⟨x,hx⟩:∃ x,xs[k]?=some x:=⟨_,List.getElem?_eq_getElem (by omega)⟩
  have h1:=yn6 hg (k:=k) (by omega) (fun y hy=>he y (by rw[List.take_add_one];exact List.mem_append_left _ hy))
  rw[yi6 hx]
  have h2:=P7.le_plus h1 (ysh.1 (he x (by rw[List.take_add_one,hx];simp))) (hg x (List.mem_of_getElem? hx)).2.2
  rw[show (36:Int)*((k+1:Nat):Int)=36*(k:Int)+36 by omega]
  exact h2
theorem yio {xs:List PF} (hg:∀ x ∈ xs,x.s.good):∀ {k:Nat},k<=xs.length->(∀ x ∈ xs.take k,wi x.exp=true)->sz (pprod (xs.take k))<=1+62*k
 | 0,_,_=>by
  rw[List.take_zero]
  show sz (1:Rat)<=_
  rw[ymq]
  omega
 | k+1,hk,he=>by
  obtain⟨x,hx⟩:∃ x,xs[k]?=some x:=⟨_,List.getElem?_eq_getElem (by omega)⟩
  have h1:=yio hg (k:=k) (by omega) (fun y hy=>he y (by rw[List.take_add_one];exact List.mem_append_left _ hy))
  obtain⟨⟨f,hf,f0⟩,_,_⟩:=hg x (List.mem_of_getElem? hx)
  have hw:=ysh.1 (he x (by rw[List.take_add_one,hx];simp))
  have h2:=ypj (Rat.ne_of_gt f0) (yhb hf) x.exp
  have h3:=yp8 (pprod (xs.take k)) (f ^ x.exp)
  rw[yho hx hf]
  have h4:x.exp.natAbs<=12:=by omega
  have h5:x.exp.natAbs*5<=60:=by omega
  omega
def wis (xs:List PF) (k:Nat):Prop:=∀ x ∈ xs.take k,wi x.exp=true
theorem yre (xs:List PF):wis xs 0:=fun x hx=>by simp at hx
theorem yq2 {xs:List PF} {k:Nat} {x:PF} (h:wis xs k) (hx:xs[k]?=some x) (he:wi x.exp=true):wis xs (k+1):=fun y hy=>by
 rw[List.take_add_one,hx] at hy
 rcases List.mem_append.1 hy with hy|hy
 ·exact h y hy
 ·simp at hy
  rw[hy]
  exact he
open Go.Lib (decDigits)
section
variable {P:Program} {md:Region.Mode} {ops:Array Oper} {Q:Exit->Act->World->Prop} {S:World->Prop} {fuel:Nat} {listed:Array Bool} {a:Act} {w:World}
theorem tDo (i d:Nat) (v:Value) (w':World) (hr:Region.ready md ops listed=[i]) (hc:(ops[i]?.map fun o=>(o.dst,Region.wanted o (yielded ops a.tmps)))=some (some d,true))
  (hrun:(ops[i]?.map fun o=>(execOp a.eval o).run P w)=some (.ok (.value v) w')) (hS:S w') (h:S w'->wpAnyH P md ops Q S fuel (listed.setIfInBounds i true) (a.put (some d) v) w'):wpAnyH P md ops Q S (fuel+1) listed a w:=by
 cases ho:ops[i]? with
 | none=>rw[ho] at hc;cases hc
 | some o=>
  rw[ho,Option.map_some,Option.some.injEq] at hc hrun
  injection hc with hd hw
  refine wpAnyH_ready hr (by simp) (AllReadyH.cons ho (fun K hK=>?_) AllReadyH.nil)
  rw[if_pos hw]
  unfold Oper.wp
  rw[hrun,Oper.upon_value,hd]
  exact hK.out _ _ hS h
theorem tStore (i:Nat) (w':World) (hr:Region.ready md ops listed=[i]) (hc:(ops[i]?.map fun o=>(o.dst,Region.wanted o (yielded ops a.tmps)))=some (none,true))
  (hrun:(ops[i]?.map fun o=>(execOp a.eval o).run P w)=some (.ok .skip w')) (hS:S w') (h:S w'->wpAnyH P md ops Q S fuel (listed.setIfInBounds i true) a w'):wpAnyH P md ops Q S (fuel+1) listed a w:=by
 cases ho:ops[i]? with
 | none=>rw[ho] at hc;cases hc
 | some o=>
  rw[ho,Option.map_some,Option.some.injEq] at hc hrun
  injection hc with hd hw
  refine wpAnyH_ready hr (by simp) (AllReadyH.cons ho (fun K hK=>?_) AllReadyH.nil)
  rw[if_pos hw]
  unfold Oper.wp
  rw[hrun,Oper.upon_skip,hd]
  exact hK.out _ _ hS h
theorem tOp (i d:Nat) (o:Oper) (hr:Region.ready md ops listed=[i]) (ho:ops[i]?=some o) (hd:o.dst=some d) (hw:Region.wanted o (yielded ops a.tmps)=true)
  (h:∀ K:Act->World->Prop,(∀ v w'',S w''->(S w''->wpAnyH P md ops Q S fuel (listed.setIfInBounds i true) (a.put (some d) v) w'')->K (a.put o.dst v) w'')->Oper.wp P o a w K Q):wpAnyH P md ops Q S (fuel+1) listed a w:=by
 refine wpAnyH_ready hr (by simp) (AllReadyH.cons ho (fun K hK=>?_) AllReadyH.nil)
 rw[if_pos hw]
 refine h K (fun v w'' hS hW=>?_)
 rw[hd]
 exact hK.out _ _ hS hW
end
section
variable {P:Program} {md:Region.Mode} {ops:Array Oper} {Q:Exit->Act->World->Prop} {E:List Nat} {S:World->Prop}
def wpX (P:Program) (md:Region.Mode) (ops:Array Oper) (Q:Exit->Act->World->Prop) (E:List Nat) (S:World->Prop) (n:Nat) (l:Array Bool) (a:Act) (w:World):Prop:=
 match n with
 | 0=>Region.ready md ops l=[]/\Q .normal a w
 | n+1=>(Region.ready md ops l=[]->Q .normal a w)/\∀ i,i ∈ Region.ready md ops l->wpOp P ops Q i (fun a' w'=>(i ∉ E->S w')/\wpX P md ops Q E S n (l.setIfInBounds i true) a' w') a w
theorem wpX.any:∀ {n:Nat} {l:Array Bool} {a:Act} {w:World},wpX P md ops Q E S n l a w->wpAny P md ops Q n l a w
 | 0,_,_,_,h=>h
 | _+1,_,_,_,h=>⟨h.1,fun i hi=>wpOp_mono (fun _ _ h'=>wpX.any h'.2) (h.2 i hi)⟩
def waits (md:Region.Mode) (ops:Array Oper) (E:List Nat) (i:Nat):Bool:=E.all fun j=>match ops[j]? with
 | some o=>o.after.any fun e=>Region.binds md e&&e.on==i
 | none=>true
theorem ypl {i j:Nat} {o:Oper} (h:waits md ops E i=true) (hj:j ∈ E) (ho:ops[j]?=some o):∃ e,e ∈ o.after/\Region.binds md e=true/\e.on=i:=by
 have h1:=List.all_eq_true.1 h j hj
 rw[ho] at h1
 obtain⟨k,hk,h2⟩:=Array.any_eq_true.1 h1
 rw[Bool.and_eq_true,beq_iff_eq] at h2
 exact⟨_,Array.getElem_mem hk,h2.1,h2.2⟩
theorem yly {l:Array Bool} {i:Nat} (h:l.getD i true=false):l.getD i false=false:=by
 rcases Nat.lt_or_ge i l.size with h'|h'
 ·simp[h'] at h ⊢;exact h
 ·simp[Array.getElem?_eq_none h'] at h
theorem ygk {i:Nat} {oi:Oper} {v:Value} (hi:ops[i]?=some oi) (hsel:∀ (j:Nat) (o:Oper) cs b,ops[j]?=some o->o.op≠.select cs b) (hQ:∀ c a w,Q (.panic c) (a.put oi.dst v) w->Q (.panic c) a w) (hE:waits md ops E i=true) (hiE:i ∉ E) :
  ∀ (n:Nat) (l:Array Bool) (a:Act) (w:World),(∀ j oj,ops[j]?=some oj->j≠i->l.getD j true=false->(∀ e ∈ oj.after,Region.binds md e=true->e.on≠i)->oi.apart ops oj=true)->
   i ∈ Region.ready md ops l->YieldsIf P ops S oi v a->S w->wpX P md ops Q E S n (l.setIfInBounds i true) (a.put oi.dst v) w->wpX P md ops Q E S (n+1) l a w
 | 0,l,a,w,_,hr,hy,hS,H=>by
  refine⟨fun h=>absurd (h▸hr) (by simp),fun j hj=>?_⟩
  by_cases hji:j=i
  ·subst hji;exact hy.wpOp hi hS ⟨fun _=>hS,H⟩
  ·exact absurd (H.1▸ready_mono hj hji) (by simp)
 | n+1,l,a,w,hf,hr,hy,hS,H=>by
  refine⟨fun h=>absurd (h▸hr) (by simp),fun j hj=>?_⟩
  by_cases hji:j=i
  ·subst hji;exact hy.wpOp hi hS ⟨fun _=>hS,H⟩
  obtain⟨hun,oj,hoj,hall⟩:=mem_ready.1 hj
  have hnot:∀ e ∈ oj.after,Region.binds md e=true->e.on≠i:=fun e he hb heq=>by
   have h1:=hall e he hb
   rw[heq,yly (mem_ready.1 hr).1] at h1
   cases h1
  have hjE:j ∉ E:=fun h=>by
   obtain⟨e,he,hb,hon⟩:=ypl hE h hoj
   exact hnot e he hb hon
  have h2:=wpOp_putIf hoj (hf j oj hoj hji hun hnot) (fun cs b=>hsel i oi cs b hi) (fun cs b=>hsel j oj cs b hoj) hQ hy (H.2 j (ready_mono hj hji))
  refine wpOp_mono (fun a' w' h3=>⟨h3.2.1,ygk hi hsel hQ hE hiE n _ a' w' (fun k ok hk hki hu hno=>hf k ok hk hki ?_ hno) (ready_mono hr (Ne.symm hji)) h3.1 (h3.2.1 hjE) (by rw[Array.setIfInBounds_comm _ _ hji];exact h3.2.2)⟩) h2
  by_cases hjk:j=k
  ·subst hjk;exact hun
  ·rwa [getD_set_ne true hjk] at hu
theorem ylw {i:Nat} {oi:Oper} {v:Value} (hi:ops[i]?=some oi) (hsel:∀ (j:Nat) (o:Oper) cs b,ops[j]?=some o->o.op≠.select cs b) (hQ:∀ c a w,Q (.panic c) (a.put oi.dst v) w->Q (.panic c) a w) (hiE:i ∈ E) :
  ∀ (n:Nat) (l:Array Bool) (a:Act) (w:World),(∀ j oj,ops[j]?=some oj->j≠i->l.getD j true=false->(∀ e ∈ oj.after,Region.binds md e=true->e.on≠i)->oi.apart ops oj=true)->
   i ∈ Region.ready md ops l->YieldsIf P ops (fun _=>True) oi v a->wpX P md ops Q E S n (l.setIfInBounds i true) (a.put oi.dst v) w->wpX P md ops Q E S (n+1) l a w
 | 0,l,a,w,_,hr,hy,H=>by
  refine⟨fun h=>absurd (h▸hr) (by simp),fun j hj=>?_⟩
  by_cases hji:j=i
  ·subst hji;exact hy.wpOp hi trivial ⟨fun h=>absurd hiE h,H⟩
  ·exact absurd (H.1▸ready_mono hj hji) (by simp)
 | n+1,l,a,w,hf,hr,hy,H=>by
  refine⟨fun h=>absurd (h▸hr) (by simp),fun j hj=>?_⟩
  by_cases hji:j=i
  ·subst hji;exact hy.wpOp hi trivial ⟨fun h=>absurd hiE h,H⟩
  obtain⟨hun,oj,hoj,hall⟩:=mem_ready.1 hj
  have hnot:∀ e ∈ oj.after,Region.binds md e=true->e.on≠i:=fun e he hb heq=>by
   have h1:=hall e he hb
   rw[heq,yly (mem_ready.1 hr).1] at h1
   cases h1
  have h2:=wpOp_putIf hoj (hf j oj hoj hji hun hnot) (fun cs b=>hsel i oi cs b hi) (fun cs b=>hsel j oj cs b hoj) hQ hy (H.2 j (ready_mono hj hji))
  refine wpOp_mono (fun a' w' h3=>⟨h3.2.1,ylw hi hsel hQ hiE n _ a' w' (fun k ok hk hki hu hno=>hf k ok hk hki ?_ hno) (ready_mono hr (Ne.symm hji)) h3.1 (by rw[Array.setIfInBounds_comm _ _ hji];exact h3.2.2)⟩) h2
  by_cases hjk:j=k
  ·subst hjk;exact hun
  ·rwa [getD_set_ne true hjk] at hu
variable {n:Nat} {l:Array Bool} {a:Act} {w:World}
theorem xPure (i d:Nat) (v:Value) (hc:(tOk md ops l i d a true&&E.contains i)=true) (hv:∀ w',(ops[i]?.map fun o=>(execOp a.eval o).run P w')=some (.ok (.value v) w'))
  (h:wpX P md ops (NoPanic Q) E S n (l.setIfInBounds i true) (a.put (some d) v) w):wpX P md ops (NoPanic Q) E S (n+1) l a w:=by
 rw[Bool.and_eq_true] at hc
 obtain⟨h1,h2,h3,o,ho,hd,hw⟩:=yfr hc.1
 rw[<- hd] at h
 refine ylw ho (Region.noSelect_spec h1) (fun _ _ _ h=>h) (by simpa using hc.2) n l a w (Region.free_spec ho h2) (by simpa using h3) (Or.inl ⟨hw,fun w' _=>?_⟩) h
 have:=hv w'
 rw[ho,Option.map_some,Option.some.injEq] at this
 exact this
theorem xStart {id:Nat} (hm:P.follows .mixedOrders=true) (h:wpX P .any ops Q E S ops.size (Array.replicate ops.size false) a w.drew):(Code.region id ops true).wp P Q a w:=wp_region_any hm h.any
theorem xVal (i d:Nat) (v:Value) (hS:S w) (hc:(tOk md ops l i d a true&&(waits md ops E i&&!E.contains i))=true) (hv:∀ w',S w'->(ops[i]?.map fun o=>(execOp a.eval o).run P w')=some (.ok (.value v) w'))
  (h:wpX P md ops (NoPanic Q) E S n (l.setIfInBounds i true) (a.put (some d) v) w):wpX P md ops (NoPanic Q) E S (n+1) l a w:=by
 rw[Bool.and_eq_true,Bool.and_eq_true] at hc
 obtain⟨h1,h2,h3,o,ho,hd,hw⟩:=yfr hc.1
 rw[<- hd] at h
 refine ygk ho (Region.noSelect_spec h1) (fun _ _ _ h=>h) hc.2.1 (by simpa using hc.2.2) n l a w (Region.free_spec ho h2) (by simpa using h3) (Or.inl ⟨hw,fun w' hw'=>?_⟩) hS h
 have:=hv w' hw'
 rw[ho,Option.map_some,Option.some.injEq] at this
 exact this
theorem xAll (i:Nat) {o:Oper} (hr:Region.ready md ops l=[i]) (ho:ops[i]?=some o) (hw:Region.wanted o (yielded ops a.tmps)=true) (h:∀ K:Act->World->Prop,(∀ a' w',(i ∉ E->S w')->wpX P md ops Q E S n (l.setIfInBounds i true) a' w'->K a' w')->Oper.wp P o a w K Q):wpX P md ops Q E S (n+1) l a w:=by
 refine⟨fun h0=>absurd (h0▸hr) (by simp),fun j hj=>?_⟩
 rw[hr,List.mem_singleton] at hj
 subst hj
 exact wpOp_step ho (fun K hK=>by rw[if_pos hw];exact h K (fun a' w' h1 h2=>hK a' w' ⟨h1,h2⟩))
theorem xEnter (i d:Nat) (f:FuncId) (args:Array Value) (hr:Region.ready md ops l=[i]) (hc:(ops[i]?.map fun o=>(o.dst,Region.wanted o (yielded ops a.tmps)))=some (some d,true)) (hrun:(ops[i]?.map fun o=>(execOp a.eval o).run P w)=some (.ok (.enter f args) w)) {R:Ending->World->Prop} (hR:Calls P f args w R)
  (h:∀ e w'',R e w''->∃ v,e=.returned v/\S w''/\(S w''->wpX P md ops Q E S n (l.setIfInBounds i true) (a.put (some d) v) w'')):wpX P md ops Q E S (n+1) l a w:=by
 cases ho:ops[i]? with
 | none=>rw[ho] at hc;cases hc
 | some o=>
  rw[ho,Option.map_some,Option.some.injEq] at hc hrun
  injection hc with hd hw
  refine xAll i hr ho hw (fun K hK=>tCall f args hrun hR (fun e w'' hh=>?_))
  obtain⟨v,he,hS,hW⟩:=h e w'' hh
  exact⟨v,he,by rw[hd];exact hK _ _ (fun _=>hS) (hW hS)⟩
theorem xDo (i d:Nat) (v:Value) (w':World) (hr:Region.ready md ops l=[i]) (hc:(ops[i]?.map fun o=>(o.dst,Region.wanted o (yielded ops a.tmps)))=some (some d,true))
  (hrun:(ops[i]?.map fun o=>(execOp a.eval o).run P w)=some (.ok (.value v) w')) (hS:i ∉ E->S w') (h:wpX P md ops Q E S n (l.setIfInBounds i true) (a.put (some d) v) w'):wpX P md ops Q E S (n+1) l a w:=by
 cases ho:ops[i]? with
 | none=>rw[ho] at hc;cases hc
 | some o=>
  rw[ho,Option.map_some,Option.some.injEq] at hc hrun
  injection hc with hd hw
  refine xAll i hr ho hw (fun K hK=>?_)
  unfold Oper.wp
  rw[hrun,Oper.upon_value,hd]
  exact hK _ _ hS h
theorem xStore (i:Nat) (w':World) (hr:Region.ready md ops l=[i]) (hc:(ops[i]?.map fun o=>(o.dst,Region.wanted o (yielded ops a.tmps)))=some (none,true))
  (hrun:(ops[i]?.map fun o=>(execOp a.eval o).run P w)=some (.ok .skip w')) (hS:i ∉ E->S w') (h:wpX P md ops Q E S n (l.setIfInBounds i true) a w'):wpX P md ops Q E S (n+1) l a w:=by
 cases ho:ops[i]? with
 | none=>rw[ho] at hc;cases hc
 | some o=>
  rw[ho,Option.map_some,Option.some.injEq] at hc hrun
  injection hc with hd hw
  refine xAll i hr ho hw (fun K hK=>?_)
  unfold Oper.wp
  rw[hrun,Oper.upon_skip,hd]
  exact hK _ _ hS h
theorem xDone (hr:Region.ready md ops l=[]) (h:Q .normal a w):wpX P md ops Q E S n l a w:=by
 cases n with
 | zero=>exact⟨hr,h⟩
 | succ n=>exact⟨fun _=>h,fun i hi=>absurd (hr▸hi) (by simp)⟩
theorem xStartH {id:Nat} (hm:P.follows .mixedOrders=true) (hS:S w.drew) (h:S w.drew->wpX P .any ops Q E S ops.size (Array.replicate ops.size false) a w.drew):(Code.region id ops true).wp P Q a w:=xStart hm (h hS)
theorem xRun:∀ (ss:List Stp) {l:Array Bool} {a:Act} {w:World},S w->stpGot P md ops (fun _ i=>waits md ops E i&&!E.contains i) ss l a=stpWant ss->ss.all (·.2.2.isSome)=true->
  wpX P md ops (NoPanic Q) E S n (runL ss l) (runA ss a) w->wpX P md ops (NoPanic Q) E S (runF ss n) l a w
 | [],_,_,_,_,_,_,h=>h
 | (_,_,none)::r,_,_,_,_,_,hs,_=>by cases hs
 | (i,d,some v)::r,l,a,w,hS,hc,hs,h=>by
  have ht:=xRun r hS (funext fun w'=>(List.cons.inj (congrFun hc w')).2) hs h
  have h1:=congrArg Prod.fst (List.cons.inj (congrFun hc w)).1
  exact xVal i d v hS h1 (fun w' _=>congrArg Prod.snd (List.cons.inj (congrFun hc w')).1) ht
end
section
variable {P:Program} {md:Region.Mode} {ops:Array Oper} {Q:Exit->Act->World->Prop} {S:World->Prop} {fuel:Nat} {listed:Array Bool} {a:Act} {w:World}
theorem tStoreRow (i:Nat) (ty:TypeId) (x y:Operand) (g:Nat) (cells:Array Value) (t:TypeId) (old:Array Value) (hr:Region.ready md ops listed=[i]) (hc:(ops[i]?.map fun o=>(o.dst,Region.wanted o (yielded ops a.tmps)))=some (none,true))
  (ho:(ops[i]?.map fun o=>o.op)=some (.store ty x y)) (hx:a.eval x=.pointer (some ⟨g,0,none⟩)) (hy:a.eval y=.agg cells) (hg:Bk w g old t) (hi:(P.info? ty).map (·.size)=some cells.size) (hold:old.size=cells.size) (h1:cells.all (·.oneCell')=true)
  (hS:S (w.setRow g cells)) (h:S (w.setRow g cells)->wpAnyH P md ops Q S fuel (listed.setIfInBounds i true) a (w.setRow g cells)):wpAnyH P md ops Q S (fuel+1) listed a w:=by
 cases hop:ops[i]? with
 | none=>rw[hop] at hc;cases hc
 | some o=>
  rw[hop,Option.map_some,Option.some.injEq] at hc ho
  injection hc with hd hw
  refine wpAnyH_ready hr (by simp) (AllReadyH.cons hop (fun K hK=>?_) AllReadyH.nil)
  rw[if_pos hw]
  refine wp_store_row ty x y ho g cells hx hy t old hg hi hold h1 ?_
  rw[hd]
  exact hK.out _ _ hS h
end
section
variable {P:Program} {md:Region.Mode} {ops:Array Oper} {Q:Exit->Act->World->Prop} {S:World->Prop} {fuel:Nat} {listed:Array Bool} {a:Act} {w:World}
theorem rTwo (i j:Nat) (hr:Region.ready md ops listed=[i,j]) (hi:wpOp P ops Q i (fun a' w'=>S w'/\wpAnyH P md ops Q S fuel (listed.setIfInBounds i true) a' w') a w) (hj:wpOp P ops Q j (fun a' w'=>S w'/\wpAnyH P md ops Q S fuel (listed.setIfInBounds j true) a' w') a w):wpAnyH P md ops Q S (fuel+1) listed a w:=by
 refine wpAnyH_all hr (by simp) (fun k hk=>?_)
 rcases List.mem_cons.1 hk with rfl|hk
 ·exact hi
 ·rw[List.mem_singleton.1 hk];exact hj
theorem eEnter {i d:Nat} (f:FuncId) (args:Array Value) (hc:(ops[i]?.map fun o=>(o.dst,Region.wanted o (yielded ops a.tmps)))=some (some d,true)) (hrun:(ops[i]?.map fun o=>(execOp a.eval o).run P w)=some (.ok (.enter f args) w)) {R:Ending->World->Prop} (hR:Calls P f args w R)
  (h:∀ e w'',R e w''->∃ v,e=.returned v/\S w''/\(S w''->wpAnyH P md ops Q S fuel (listed.setIfInBounds i true) (a.put (some d) v) w'')):wpOp P ops Q i (fun a' w'=>S w'/\wpAnyH P md ops Q S fuel (listed.setIfInBounds i true) a' w') a w:=by
 cases ho:ops[i]? with
 | none=>rw[ho] at hc;cases hc
 | some o=>
  rw[ho,Option.map_some,Option.some.injEq] at hc hrun
  injection hc with hd hw
  refine wpOp_step ho (fun K hK=>?_)
  rw[if_pos hw]
  refine tCall f args hrun hR (fun e w'' hh=>?_)
  obtain⟨v,he,hS,hW⟩:=h e w'' hh
  exact⟨v,he,by rw[hd];exact hK _ _ ⟨hS,hW hS⟩⟩
theorem eDo {i d:Nat} (v:Value) (w':World) (hc:(ops[i]?.map fun o=>(o.dst,Region.wanted o (yielded ops a.tmps)))=some (some d,true))
  (hrun:(ops[i]?.map fun o=>(execOp a.eval o).run P w)=some (.ok (.value v) w')) (hS:S w') (h:S w'->wpAnyH P md ops Q S fuel (listed.setIfInBounds i true) (a.put (some d) v) w'):wpOp P ops Q i (fun a' w'=>S w'/\wpAnyH P md ops Q S fuel (listed.setIfInBounds i true) a' w') a w:=by
 cases ho:ops[i]? with
 | none=>rw[ho] at hc;cases hc
 | some o=>
  rw[ho,Option.map_some,Option.some.injEq] at hc hrun
  injection hc with hd hw
  refine wpOp_step ho (fun K hK=>?_)
  rw[if_pos hw]
  unfold Oper.wp
  rw[hrun,Oper.upon_value,hd]
  exact hK _ _ ⟨hS,h hS⟩
end
section
variable {P:Program} {md:Region.Mode} {ops:Array Oper} {Q:Exit->Act->World->Prop} {E:List Nat} {S:World->Prop} {n:Nat} {l:Array Bool} {a:Act} {w:World}
theorem xLoad (i d:Nat) (ty:TypeId) (x:Operand) (b o:Nat) (cs:List Value) (hS:S w) (hc:(tOk md ops l i d a true&&(waits md ops E i&&!E.contains i))=true)
  (ho:(ops[i]?.map fun o=>o.op)=some (.load ty x)) (hx:a.eval x=.pointer (some ⟨b,o,none⟩)) (hr:∀ w,S w->w.rangeAt b o cs) {ds:TypeDesc} (hu:P.underlying ty=some ds) (hd:ds.isRow=true) (hi:(P.info? ty).map (·.size)=some cs.length)
  (h:wpX P md ops (NoPanic Q) E S n (l.setIfInBounds i true) (a.put (some d) (.agg cs.toArray)) w):wpX P md ops (NoPanic Q) E S (n+1) l a w:=by
 rw[Bool.and_eq_true,Bool.and_eq_true] at hc
 obtain⟨h1,h2,h3,op,hop,hdd,hw⟩:=yfr hc.1
 rw[<- hdd] at h
 rw[hop,Option.map_some,Option.some.injEq] at ho
 exact ygk hop (Region.noSelect_spec h1) (fun _ _ _ h=>h) hc.2.1 (by simpa using hc.2.2) n l a w (Region.free_spec hop h2) (by simpa using h3) (yieldsIf_load_mid hw ty x ho b o hx cs ds hr hu hd hi) hS h
end
section
variable {P:Program} {md:Region.Mode} {ops:Array Oper} {Q:Exit->Act->World->Prop} {E:List Nat} {S:World->Prop} {n:Nat} {l:Array Bool} {a:Act} {w:World}
theorem xStoreMid (i:Nat) (ty:TypeId) (x y:Operand) (b o:Nat) (cells:Array Value) (hr:Region.ready md ops l=[i]) (hc:(ops[i]?.map fun o=>(o.op,o.dst,Region.wanted o (yielded ops a.tmps)))=some (.store ty x y,none,true))
  (hx:a.eval x=.pointer (some ⟨b,o,none⟩)) (hy:a.eval y=.agg cells) (ht:w.there b o cells.size) (hi:(P.info? ty).map (·.size)=some cells.size) (h1:cells.all (·.oneCell')=true)
  (hS:i ∉ E->S (w.setCells b o cells.toList)) (h:wpX P md ops Q E S n (l.setIfInBounds i true) a (w.setCells b o cells.toList)):wpX P md ops Q E S (n+1) l a w:=by
 cases ho:ops[i]? with
 | none=>rw[ho] at hc;cases hc
 | some op=>
  rw[ho,Option.map_some,Option.some.injEq] at hc
  injection hc with hop hc
  injection hc with hd hw
  refine xAll i hr ho hw (fun K hK=>wp_store_mid ty x y hop b o cells hx hy ht hi h1 ?_)
  rw[hd]
  exact hK _ _ hS h
end
theorem yrm (w:World):(w.alloc (.map #[] 0)).heap[w.heap.size]?=some (.map #[] 0)/\Below w.heap.size w (w.alloc (.map #[] 0)):=⟨(MapKept.heap_alloc w _).1,(Below.refl _ w).alloc (Nat.le_refl _) _⟩
theorem ycv {P:Program} {w0 w:World} {t kt et:TypeId} {r c:Nat} {es:Array MapEntry} (k:Int) (v:Value) (ht:P.underlying t=some (.map kt et)) (hk:P.underlying kt=some (.int .i64)) (hb:w.heap[r]?=some (.map es c)) (hB:Below r w0 w) (hn:Instr.findNow (.int .i64) (.int .i64 k) es.toList 0=some none) :
  ∃ w',(Instr.mapUpdate t (.map (some r)) (.int .i64 k) v).run P w=.ok () w'/\w'.heap[r]?=some (.map (es.push ⟨.int .i64 k,v,c⟩) (c+1))/\Below r w0 w':=by
 have hc:(Instr.checkKey false 10000 kt (.int .i64 k)).run P w=.ok () w:=MapKept.run_checkKey (k:=.int .i64 k) hk (by simp[MapKept.IsKey]) false 9999
 refine⟨{ w with heap:=w.heap.setIfInBounds r (.map (es.push ⟨.int .i64 k,v,c⟩) (c+1)) },?_,(MapKept.heap_set hb).1,⟨hB.os,hB.tape,hB.output,?_,fun b hb'=>?_⟩⟩
 ·simp[Instr.mapUpdate,run_underlying ht,MapKept.run_getObj_map hb,hc,MapKept.run_findKey hk hn,MapKept.run_setObj_map _ hb,Result.andThen]
 ·show w0.heap.size<=(w.heap.setIfInBounds r _).size
  rw[Array.size_setIfInBounds]
  exact hB.size
 ·exact((MapKept.heap_set hb).2 b (by omega)).trans (hB.block b hb')
theorem ytq {P:Program} {w:World} {t kt et:TypeId} {r c:Nat} {es:Array MapEntry} (k:Int) {i:Nat} {v:Value} (ht:P.underlying t=some (.map kt et)) (hk:P.underlying kt=some (.int .i64)) (hb:w.heap[r]?=some (.map es c)) (hn:Instr.findNow (.int .i64) (.int .i64 k) es.toList 0=some (some (i,v))) :
  (Instr.lookup t (.map (some r)) (.int .i64 k) true).run P w=.ok (.tuple #[v,.bool true]) w:=by
 have hc:(Instr.checkKey es.isEmpty 10000 kt (.int .i64 k)).run P w=.ok () w:=MapKept.run_checkKey (k:=.int .i64 k) hk (by simp[MapKept.IsKey]) _ 9999
 simp[Instr.lookup,run_underlying ht,MapKept.run_getObj_map hb,hc,MapKept.run_findKey hk hn,Result.andThen]
end Go.Proofs.YtajmjllhdcdkmaaGreatDoor
