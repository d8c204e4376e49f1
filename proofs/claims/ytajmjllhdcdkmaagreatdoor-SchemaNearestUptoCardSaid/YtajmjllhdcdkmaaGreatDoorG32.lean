import Derived.Test.YtajmjllhdcdkmaaGreatDoorG11
import Derived.Test.YtajmjllhdcdkmaaGreatDoorRows
import Derived.Deep.Slices
import Derived.Deep.Strs
import Derived.Lib.SmallJoins
import Derived.OpenShut
import Derived.WideShapes
set_option maxRecDepth 100000
namespace Go.Proofs.YtajmjllhdcdkmaaGreatDoor
open Go.RowKit Go.ChangeShapes Go.WideShapes Go.ChangeAt Go.Joins Go.Proofs.YtajmjllhdcdkmaaGreatDoor.Q
section
variable {H:Type}
theorem yrp (d:DataW H):1<=Rows.uptoBulk d:=by
 cases d with
 | lit l=>cases l<;>simp[Rows.uptoBulk]
 | _=>simp[Rows.uptoBulk]
theorem yh7:∀ {l:List (DataW H)} {d:DataW H},d ∈ l->Rows.uptoBulk d<=Rows.uptoBulkAll l
 | [],_,h=>by cases h
 | a::l,d,h=>by
  rw[Rows.uptoBulkAll]
  rcases List.mem_cons.1 h with rfl|h
  ·omega
  ·have:=yh7 h;omega
theorem ylt:∀ (l:List (DataW H)),l.length<=Rows.uptoBulkAll l
 | []=>Nat.le_refl _
 | a::l=>by
  rw[Rows.uptoBulkAll,List.length_cons]
  have:=ylt l
  have:=yrp a
  omega
end
theorem ygl {α:Type} {Q:Nat->α->Prop}:∀ (n:Nat),(∀ i,i<n->∃ y,Q i y)->∃ ys:List α,ys.length=n/\∀ (k:Nat) y,ys[k]?=some y->Q k y
 | 0,_=>⟨[],rfl,fun k y h=>by cases h⟩
 | n+1,h=>by
  obtain⟨ys,h1,h2⟩:=ygl n (fun i hi=>h i (by omega))
  obtain⟨y,hy⟩:=h n (by omega)
  refine⟨ys++[y],by rw[List.length_append,h1];rfl,fun k z hk=>?_⟩
  rw[List.getElem?_append] at hk
  split at hk
  ·exact h2 k z hk
  ·rename_i hlt
   have:k=n:=by
    have:=(List.getElem?_eq_some_iff.1 hk).1
    simp at this
    omega
   subst this
   rw[h1,Nat.sub_self] at hk
   injection hk with hk
   rw[<- hk];exact hy
section
variable {H:Type} {enc:TypeId×Value->H} {w:World} {spare:Nat->Bool} {held:Bool}
def Opn (enc:TypeId×Value->H) (w:World) (spare:Nat->Bool) (held:Bool) {α:Type} (P:Rd α) (m:Nat) (t:TypeId) (Bd:Nat->α->Prop):Prop:=
 ∀ (fuel:Nat) (cs:List Value) (x:DataW H×List MemPlace),DataW.trod enc Tryz.prog w 0 spare held fuel t cs=some x->cs.length=m/\∃ y,P w w.heap.size cs y/\Bd (Rows.uptoBulk x.1) y
theorem yce {α:Type} {P:Rd α} {m:Nat} {t e:TypeId} {Bd:Nat->α->Prop} (ht:Tryz.prog.underlying t=some (.slice e)) (hc:Tryz.prog.cellsOf e=m) (hm:0<m) (h:Opn enc w spare held P m e Bd) (mono:∀ (a b:Nat) (y:α),a<=b->Bd a y->Bd b y)
  {fuel:Nat} {cs:List Value} {x:DataW H×List MemPlace} (hx:DataW.trod enc Tryz.prog w 0 spare held fuel t cs=some x):∃ v ys,cs=[v]/\VL P m w w.heap.size v ys/\ys.length<=Rows.uptoBulk x.1/\∀ y ∈ ys,Bd (Rows.uptoBulk x.1) y:=by
 rcases Deep.open_slice ht hx with ⟨rfl,rfl⟩|⟨a,len,cap,mm,n,D,Pl,rfl,_,hl,hmx,hmm,rfl,hel⟩
 ·exact⟨_,[],rfl,VL.nil,Nat.zero_le _,fun _ h=>by cases h⟩
 ·have hle:len<=mm:=by rw[hmm];split<;>omega
  rw[hc] at hel
  obtain⟨ys,h1,h2⟩:=ygl (Q:=fun i y=>(∃ vs:List Value,vs.length=m/\(∀ j u,vs[j]?=some u->w.cell? ((a.add (i*m)).add j)=some u)/\P w w.heap.size vs y)/\Bd (Rows.uptoBulk (D i)) y) len (fun i hi=>by
   obtain⟨cs',g1,g2⟩:=hel i (by omega)
   obtain⟨g3,y,g4,g5⟩:=h _ _ _ g2
   obtain⟨_,g6,g7⟩:=World.cells?_some g1
   exact⟨y,⟨cs',g3,fun j u hj=>(g7 j (by rw[<- g3];exact(List.getElem?_eq_some_iff.1 hj).1)).trans hj,g4⟩,g5⟩)
  have hb:len<=Rows.uptoBulk (DataW.slice ((List.range len).map D) ((List.range (mm - len)).map fun j=>D (len+j))):=by
   rw[Rows.uptoBulk]
   have:=ylt ((List.range len).map D)
   simp at this
   omega
  refine⟨_,ys,rfl,⟨some a,len,cap,rfl,h1,hl,Nat.le_trans hl (Nat.le_trans hmx (by unfold maxLen;omega)),(fun h=>by cases h),fun hn=>?_⟩,by rw[h1];exact hb,fun y hy=>?_⟩
  ·obtain⟨y0,hy0⟩:∃ y,ys[0]?=some y:=⟨ys[0],List.getElem?_eq_getElem (by omega)⟩
   obtain⟨⟨vs,g1,g2,_⟩,_⟩:=h2 0 y0 hy0
   obtain⟨u,hu⟩:∃ u,vs[0]?=some u:=⟨vs[0],List.getElem?_eq_getElem (by omega)⟩
   have h0:=g2 0 u hu
   rw[Nat.zero_mul] at h0
   obtain⟨b,off,sp⟩:=a
   have es:sp=none:=by
    cases sp with
    | none=>rfl
    | some x=>simp[Addr.add,World.cell?] at h0;split at h0<;>simp at h0
   subst es
   have hbz:b<w.heap.size:=by
    simp only[Addr.add,if_true,World.cell?] at h0
    cases hh:w.heap[b]? with
    | none=>simp[hh] at h0
    | some o=>exact(Array.getElem?_eq_some_iff.1 hh).1
   refine⟨b,off,rfl,hbz,fun k y hk=>?_⟩
   obtain⟨⟨vs,g1,g2,g3⟩,_⟩:=h2 k y hk
   refine⟨vs,g1,fun j u hj=>?_,g3⟩
   have:=g2 j u hj
   have ha:((⟨b,off,none⟩:Addr).add (k*m)).add j=⟨b,off+k*m+j,none⟩:=by
    unfold Addr.add
    repeat' split
    all_goals simp_all [Nat.add_assoc]
   rwa [ha] at this
  ·obtain⟨k,hk⟩:=List.mem_iff_getElem?.1 hy
   have hlt:=(List.getElem?_eq_some_iff.1 hk).1
   refine mono _ _ _ ?_ (h2 k y hk).2
   rw[Rows.uptoBulk]
   have:=yh7 (l:=(List.range len).map D) (d:=D k) (List.mem_map.2 ⟨k,List.mem_range.2 (by omega),rfl⟩)
   omega
end
def bS (N:Nat) (x:ByteArray):Prop:=x.size<=N
def bAttr (N:Nat) (a:AttrD):Prop:=bS N a.name/\bS N a.text/\a.nums.length<=N/\∀ x ∈ a.nums,bS N x
def bDim (N:Nat) (d:DimD):Prop:=bS N d.name
def bStage (N:Nat) (s:StageD):Prop:=bS N s.step
def bVar (N:Nat) (x:VarD):Prop:=bS N x.name/\bS N x.fill/\bS N x.unit/\(x.dims.length<=N/\∀ d ∈ x.dims,bS N d)/\x.chunks.length<=N/\(x.stages.length<=N/\∀ s ∈ x.stages,bStage N s)/\(x.attrs.length<=N/\∀ a ∈ x.attrs,bAttr N a)
def bGroup (N:Nat) (g:GroupD):Prop:=bS N g.path/\(g.dims.length<=N/\∀ d ∈ g.dims,bDim N d)/\(g.vars.length<=N/\∀ x ∈ g.vars,bVar N x)/\(g.attrs.length<=N/\∀ a ∈ g.attrs,bAttr N a)
def bSch (N:Nat) (s:List GroupD):Prop:=s.length<=N/\∀ g ∈ s,bGroup N g
theorem ycz (a b:Nat) (y:ByteArray) (h:a<=b) (hy:bS a y):bS b y:=Nat.le_trans hy h
theorem ycq (a b:Nat) (y:AttrD) (h:a<=b) (hy:bAttr a y):bAttr b y:=⟨ycz _ _ _ h hy.1,ycz _ _ _ h hy.2.1,Nat.le_trans hy.2.2.1 h,fun x hx=>ycz _ _ _ h (hy.2.2.2 x hx)⟩
theorem yge (a b:Nat) (y:DimD) (h:a<=b) (hy:bDim a y):bDim b y:=Nat.le_trans hy h
theorem yew (a b:Nat) (y:StageD) (h:a<=b) (hy:bStage a y):bStage b y:=Nat.le_trans hy h
theorem yg3 (a b:Nat) (y:VarD) (h:a<=b) (hy:bVar a y):bVar b y:=⟨ycz _ _ _ h hy.1,ycz _ _ _ h hy.2.1,ycz _ _ _ h hy.2.2.1,⟨Nat.le_trans hy.2.2.2.1.1 h,fun x hx=>ycz _ _ _ h (hy.2.2.2.1.2 x hx)⟩,Nat.le_trans hy.2.2.2.2.1 h,⟨Nat.le_trans hy.2.2.2.2.2.1.1 h,fun x hx=>yew _ _ _ h (hy.2.2.2.2.2.1.2 x hx)⟩,⟨Nat.le_trans hy.2.2.2.2.2.2.1 h,fun x hx=>ycq _ _ _ h (hy.2.2.2.2.2.2.2 x hx)⟩⟩
theorem yer (a b:Nat) (y:GroupD) (h:a<=b) (hy:bGroup a y):bGroup b y:=⟨ycz _ _ _ h hy.1,⟨Nat.le_trans hy.2.1.1 h,fun x hx=>yge _ _ _ h (hy.2.1.2 x hx)⟩,⟨Nat.le_trans hy.2.2.1.1 h,fun x hx=>yg3 _ _ _ h (hy.2.2.1.2 x hx)⟩,⟨Nat.le_trans hy.2.2.2.1 h,fun x hx=>ycq _ _ _ h (hy.2.2.2.2 x hx)⟩⟩
theorem yod (a b:Nat) (y:List GroupD) (h:a<=b) (hy:bSch a y):bSch b y:=⟨Nat.le_trans hy.1 h,fun g hg=>yer _ _ _ h (hy.2 g hg)⟩
theorem yhh:Tryz.prog.cellsOf 9=1:=by kernel_rfl
theorem yiy:Tryz.prog.cellsOf 3=1:=by kernel_rfl
theorem ysz:Tryz.prog.cellsOf 4=1:=by kernel_rfl
theorem yle:Tryz.prog.cellsOf 43=4:=by kernel_rfl
theorem ysn:Tryz.prog.cellsOf 26=3:=by kernel_rfl
theorem ymp:Tryz.prog.cellsOf 130=3:=by kernel_rfl
theorem ysl:Tryz.prog.cellsOf 41=8:=by kernel_rfl
theorem ylp:Tryz.prog.cellsOf 55=4:=by kernel_rfl
theorem oC_s1:Tryz.prog.cellsOf 36=1:=by kernel_rfl
theorem oC_s2:Tryz.prog.cellsOf 37=1:=by kernel_rfl
theorem oC_s3:Tryz.prog.cellsOf 38=1:=by kernel_rfl
theorem oC_s4:Tryz.prog.cellsOf 39=1:=by kernel_rfl
theorem oC_s5:Tryz.prog.cellsOf 52=1:=by kernel_rfl
theorem oC_s6:Tryz.prog.cellsOf 53=1:=by kernel_rfl
theorem oC_s7:Tryz.prog.cellsOf 22=1:=by kernel_rfl
section
variable {H:Type} {enc:TypeId×Value->H} {w:World} {spare:Nat->Bool} {held:Bool}
theorem ye4 {x:ByteArray} (h:x.size<=maxLen):okS x:=Nat.le_trans h (by unfold maxLen;omega)
theorem yhk {n:Int} (h:(Lit.int .i64 n).wf=true):inI n:=by
 have:=h
 simp only[Lit.wf,Bool.and_eq_true,decide_eq_true_eq] at this
 have e1:IntKind.i64.min = -9223372036854775808:=by decide
 have e2:IntKind.i64.max=9223372036854775807:=by decide
 unfold inI
 omega
theorem ys1:Opn enc w spare held kStr 1 9 bS:=by
 intro fuel cs x h
 obtain⟨F,rfl,rfl,w0⟩:=DataW.trod_string Tryz.underlying9 h
 refine⟨rfl,F,⟨rfl,ye4 w0⟩,?_⟩
 show F.size<=_
 rw[Rows.uptoBulk,Lib.size_eq]
 omega
theorem ytt:Opn enc w spare held kInt 1 3 (fun _ _=>True):=by
 intro fuel cs x h
 obtain⟨n,rfl,rfl,w0⟩:=DataW.trod_int Tryz.underlying3 h
 exact⟨rfl,n,⟨rfl,yhk w0⟩,trivial⟩
theorem ymn {fuel:Nat} {cs:List Value} {x:DataW H×List MemPlace} (h:DataW.trod enc Tryz.prog w 0 spare held fuel 36 cs=some x):∃ v ys,cs=[v]/\VL kStr 1 w w.heap.size v ys/\ys.length<=Rows.uptoBulk x.1/\∀ y ∈ ys,bS (Rows.uptoBulk x.1) y:=
 yce Tryz.underlying36 yhh (by decide) ys1 ycz h
theorem yqn {fuel:Nat} {cs:List Value} {x:DataW H×List MemPlace} (h:DataW.trod enc Tryz.prog w 0 spare held fuel 37 cs=some x):∃ v ys,cs=[v]/\VL kInt 1 w w.heap.size v ys/\ys.length<=Rows.uptoBulk x.1:=by
 obtain⟨v,ys,h1,h2,h3,_⟩:=yce Tryz.underlying37 yiy (by decide) ytt (fun _ _ _ _ h=>h) h
 exact⟨v,ys,h1,h2,h3⟩
theorem ytr:Opn enc w spare held kDim 3 26 bDim:=by
 intro fuel cs x h
 obtain⟨y0,y1,y2,n,rfl,hl,h0,h1,h2⟩:=Deep.trod_struct3 Tryz.underlying26 h
 rw[ysn] at hl
 match cs,hl with
 | [c0,c1,c2],_=>
  rw[yhh] at h0;rw[yiy] at h1;rw[ysz] at h2
  simp at h0 h1 h2
  obtain⟨F,e0,rfl,w0⟩:=DataW.trod_string Tryz.underlying9 h0
  obtain⟨k,e1,rfl,w1⟩:=DataW.trod_int Tryz.underlying3 h1
  obtain⟨b,e2,rfl⟩:=DataW.trod_bool Tryz.underlying4 h2
  simp at e0 e1 e2
  subst e0 e1 e2
  refine⟨rfl,⟨F,k,b⟩,⟨rfl,ye4 w0,yhk w1⟩,?_⟩
  show F.size<=_
  simp only[Rows.uptoBulk,Rows.uptoBulkAll]
  have:=Lib.size_eq F
  omega
theorem yn5:Opn enc w spare held kStage 3 130 bStage:=by
 intro fuel cs x h
 obtain⟨y0,y1,y2,n,rfl,hl,h0,h1,h2⟩:=Deep.trod_struct3 Tryz.underlying130 h
 rw[ymp] at hl
 match cs,hl with
 | [c0,c1,c2],_=>
  rw[yiy] at h0 h1;rw[yhh] at h2
  simp at h0 h1 h2
  obtain⟨k,e0,rfl,w0⟩:=DataW.trod_int Tryz.underlying3 h0
  obtain⟨m,e1,rfl,w1⟩:=DataW.trod_int Tryz.underlying3 h1
  obtain⟨F,e2,rfl,w2⟩:=DataW.trod_string Tryz.underlying9 h2
  simp at e0 e1 e2
  subst e0 e1 e2
  refine⟨rfl,⟨k,m,F⟩,⟨rfl,yhk w0,yhk w1,ye4 w2⟩,?_⟩
  show F.size<=_
  simp only[Rows.uptoBulk,Rows.uptoBulkAll]
  have:=Lib.size_eq F
  omega
theorem yl9:Opn enc w spare held kAttr 4 43 bAttr:=by
 intro fuel cs x h
 obtain⟨y0,y1,y2,y3,n,rfl,hl,h0,h1,h2,h3⟩:=trod_struct4 Tryz.underlying43 h
 rw[yle] at hl
 match cs,hl with
 | [c0,c1,c2,c3],_=>
  rw[yhh] at h0 h2;rw[yiy] at h1;rw[oC_s1] at h3
  simp at h0 h1 h2 h3
  obtain⟨F,e0,rfl,w0⟩:=DataW.trod_string Tryz.underlying9 h0
  obtain⟨k,e1,rfl,w1⟩:=DataW.trod_int Tryz.underlying3 h1
  obtain⟨G,e2,rfl,w2⟩:=DataW.trod_string Tryz.underlying9 h2
  obtain⟨v,ys,e3,hV,hn,hb⟩:=ymn h3
  simp at e0 e1 e2 e3
  subst e0 e1 e2 e3
  have hF:=Lib.size_eq F
  have hG:=Lib.size_eq G
  have hle:Rows.uptoBulk y3.1<=Rows.uptoBulk (DataW.agg [DataW.lit (Lit.string F.data.toList),DataW.lit (Lit.int .i64 k),DataW.lit (Lit.string G.data.toList),y3.1]):=by
   simp only[Rows.uptoBulk,Rows.uptoBulkAll];omega
  refine⟨rfl,⟨F,k,G,ys⟩,⟨_,rfl,ye4 w0,yhk w1,ye4 w2,hV⟩,?_,?_,Nat.le_trans hn hle,fun y hy=>ycz _ _ _ hle (hb y hy)⟩
  ·show F.size<=_
   simp only[Rows.uptoBulk,Rows.uptoBulkAll];omega
  ·show G.size<=_
   simp only[Rows.uptoBulk,Rows.uptoBulkAll];omega
theorem yjo {base:Nat} {t:TypeId} {f0 f1 f2 f3 f4 f5 f6 f7:Field} {fuel:Nat} {cs:List Value} {x:DataW H×List MemPlace} (ht:Tryz.prog.underlying t=some (.struct #[f0,f1,f2,f3,f4,f5,f6,f7])) (h:DataW.trod enc Tryz.prog w base spare held fuel t cs=some x) :
  ∃ y0 y1 y2 y3 y4 y5 y6 y7 n,x.1=.agg [y0.1,y1.1,y2.1,y3.1,y4.1,y5.1,y6.1,y7.1]/\cs.length=Tryz.prog.cellsOf t/\DataW.trod enc Tryz.prog w base spare held n f0.type ((cs.drop f0.offset).take (Tryz.prog.cellsOf f0.type))=some y0/\
   DataW.trod enc Tryz.prog w base spare held n f1.type ((cs.drop f1.offset).take (Tryz.prog.cellsOf f1.type))=some y1/\DataW.trod enc Tryz.prog w base spare held n f2.type ((cs.drop f2.offset).take (Tryz.prog.cellsOf f2.type))=some y2/\
   DataW.trod enc Tryz.prog w base spare held n f3.type ((cs.drop f3.offset).take (Tryz.prog.cellsOf f3.type))=some y3/\DataW.trod enc Tryz.prog w base spare held n f4.type ((cs.drop f4.offset).take (Tryz.prog.cellsOf f4.type))=some y4/\
   DataW.trod enc Tryz.prog w base spare held n f5.type ((cs.drop f5.offset).take (Tryz.prog.cellsOf f5.type))=some y5/\DataW.trod enc Tryz.prog w base spare held n f6.type ((cs.drop f6.offset).take (Tryz.prog.cellsOf f6.type))=some y6/\
   DataW.trod enc Tryz.prog w base spare held n f7.type ((cs.drop f7.offset).take (Tryz.prog.cellsOf f7.type))=some y7:=by
 obtain⟨xs,n,_,rfl,hl,hlen,hf⟩:=DataW.trod_struct ht h
 match xs,hlen with
 | [y0,y1,y2,y3,y4,y5,y6,y7],_=>exact⟨y0,y1,y2,y3,y4,y5,y6,y7,n,by simp,hl,by simpa using hf 0 f0 rfl,by simpa using hf 1 f1 rfl,by simpa using hf 2 f2 rfl,by simpa using hf 3 f3 rfl,by simpa using hf 4 f4 rfl,by simpa using hf 5 f5 rfl,by simpa using hf 6 f6 rfl,by simpa using hf 7 f7 rfl⟩
theorem ych {l:List (DataW H)} {d:DataW H} (h:d ∈ l):Rows.uptoBulk d<=Rows.uptoBulk (DataW.agg l):=by
 rw[Rows.uptoBulk]
 have:=yh7 h
 omega
theorem ymh {l:List (DataW H)} {F:ByteArray} (h:DataW.lit (Lit.string F.data.toList) ∈ l):F.size<=Rows.uptoBulk (DataW.agg l):=by
 have h1:=ych h
 rw[Rows.uptoBulk] at h1
 have:=Lib.size_eq F
 omega
theorem yt0:Opn enc w spare held kVar 8 41 bVar:=by
 intro fuel cs x h
 obtain⟨y0,y1,y2,y3,y4,y5,y6,y7,n,hx,hl,h0,h1,h2,h3,h4,h5,h6,h7⟩:=yjo Tryz.underlying41 h
 rw[ysl] at hl
 rw[hx]
 match cs,hl with
 | [c0,c1,c2,c3,c4,c5,c6,c7],_=>
  rw[yhh] at h0 h4 h5;rw[yiy] at h1;rw[oC_s1] at h2;rw[oC_s2] at h3;rw[oC_s3] at h6;rw[oC_s4] at h7
  simp at h0 h1 h2 h3 h4 h5 h6 h7
  obtain⟨F,e0,rfl,w0⟩:=DataW.trod_string Tryz.underlying9 h0
  obtain⟨k,e1,rfl,w1⟩:=DataW.trod_int Tryz.underlying3 h1
  obtain⟨v2,ds,e2,hV2,hn2,hb2⟩:=ymn h2
  obtain⟨v3,chs,e3,hV3,hn3⟩:=yqn h3
  obtain⟨G,e4,rfl,w4⟩:=DataW.trod_string Tryz.underlying9 h4
  obtain⟨U,e5,rfl,w5⟩:=DataW.trod_string Tryz.underlying9 h5
  obtain⟨v6,sts,e6,hV6,hn6,hb6⟩:=yce Tryz.underlying38 ymp (by decide) yn5 yew h6
  obtain⟨v7,ats,e7,hV7,hn7,hb7⟩:=yce Tryz.underlying39 yle (by decide) yl9 ycq h7
  simp at e0 e1 e2 e3 e4 e5 e6 e7
  subst e0 e1 e2 e3 e4 e5 e6 e7
  refine⟨rfl,⟨F,k,ds,chs,G,U,sts,ats⟩,⟨_,_,_,_,rfl,ye4 w0,yhk w1,ye4 w4,ye4 w5,hV2,hV3,hV6,hV7⟩,ymh (by simp),ymh (by simp),ymh (by simp),⟨Nat.le_trans hn2 (ych (by simp)),fun y hy=>ycz _ _ _ (ych (by simp)) (hb2 y hy)⟩,Nat.le_trans hn3 (ych (by simp)),⟨Nat.le_trans hn6 (ych (by simp)),fun y hy=>yew _ _ _ (ych (by simp)) (hb6 y hy)⟩,⟨Nat.le_trans hn7 (ych (by simp)),fun y hy=>ycq _ _ _ (ych (by simp)) (hb7 y hy)⟩⟩
theorem ynv:Opn enc w spare held kGroup 4 55 bGroup:=by
 intro fuel cs x h
 obtain⟨y0,y1,y2,y3,n,rfl,hl,h0,h1,h2,h3⟩:=trod_struct4 Tryz.underlying55 h
 rw[ylp] at hl
 match cs,hl with
 | [c0,c1,c2,c3],_=>
  rw[yhh] at h0;rw[oC_s5] at h1;rw[oC_s6] at h2;rw[oC_s4] at h3
  simp at h0 h1 h2 h3
  obtain⟨F,e0,rfl,w0⟩:=DataW.trod_string Tryz.underlying9 h0
  obtain⟨v1,ds,e1,hV1,hn1,hb1⟩:=yce Tryz.underlying52 ysn (by decide) ytr yge h1
  obtain⟨v2,vs,e2,hV2,hn2,hb2⟩:=yce Tryz.underlying53 ysl (by decide) yt0 yg3 h2
  obtain⟨v3,ats,e3,hV3,hn3,hb3⟩:=yce Tryz.underlying39 yle (by decide) yl9 ycq h3
  simp at e0 e1 e2 e3
  subst e0 e1 e2 e3
  refine⟨rfl,⟨F,ds,vs,ats⟩,⟨_,_,_,rfl,ye4 w0,hV1,hV2,hV3⟩,ymh (by simp),⟨Nat.le_trans hn1 (ych (by simp)),fun y hy=>yge _ _ _ (ych (by simp)) (hb1 y hy)⟩,⟨Nat.le_trans hn2 (ych (by simp)),fun y hy=>yg3 _ _ _ (ych (by simp)) (hb2 y hy)⟩,⟨Nat.le_trans hn3 (ych (by simp)),fun y hy=>ycq _ _ _ (ych (by simp)) (hb3 y hy)⟩⟩
theorem yk4 {r:Reach} {b0:Nat} {v:Value} {d:DataW H} {p:List MemPlace} (hv:Value.okWide Tryz.prog w r b0 24 v) (h:DataW.Trod enc Tryz.prog w 0 spare held 24 v d p) :
  ∃ u s,v=.agg #[u]/\VSchema w w.heap.size u s/\bSch (Rows.uptoBulk d) s:=by
 obtain⟨cs,rfl,hsz⟩:=okWide_struct Tryz.underlying24 hv
 obtain⟨l⟩:=cs
 obtain⟨fuel,hf⟩:=h
 obtain⟨y0,n,hx,hl,h0⟩:=trod_struct1 Tryz.underlying24 hf
 match l,(show l.length=1 from by simpa using hsz.trans (show Tryz.prog.cellsOf 24=1 by kernel_rfl)) with
 | [c0],_=>
  rw[oC_s7] at h0
  simp[Value.cells] at h0
  simp only[Prod.mk.injEq] at hx
  obtain⟨v1,gs,e1,hV1,hn1,hb1⟩:=yce Tryz.underlying22 ylp (by decide) ynv yer h0
  simp at e1
  subst e1
  exact⟨c0,gs,rfl,hV1,by rw[hx.1];exact⟨Nat.le_trans hn1 (ych (by simp)),fun g hg=>yer _ _ _ (ych (by simp)) (hb1 g hg)⟩⟩
end
end Go.Proofs.YtajmjllhdcdkmaaGreatDoor
