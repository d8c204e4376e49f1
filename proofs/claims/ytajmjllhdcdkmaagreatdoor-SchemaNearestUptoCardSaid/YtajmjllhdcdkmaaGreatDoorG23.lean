import Derived.Test.YtajmjllhdcdkmaaGreatDoorZ
import Derived.Test.YtajmjllhdcdkmaaGreatDoorG22
import Derived.Test.YtajmjllhdcdkmaaGreatDoorG11
import Derived.Test.YtajmjllhdcdkmaaGreatDoorG12
import Derived.Lib.SliceRun
import Derived.Lib.Walk
set_option maxRecDepth 100000
set_option maxHeartbeats 6400000
namespace Go.Proofs.YtajmjllhdcdkmaaGreatDoor
open Go.RowKit Go.Proofs.YtajmjllhdcdkmaaGreatDoor.Q
theorem yez {m:Nat}:∀ {rows:List (List Value)} {k j:Nat} {r:List Value},(∀ r ∈ rows,r.length=m)->rows[k]?=some r->j<m->rows.flatten[k*m+j]?=r[j]?
 | [],k,j,r,_,hk,_=>by cases hk
 | a::rows,0,j,r,hl,hk,hj=>by
  injection hk with hk
  subst hk
  rw[List.flatten_cons,Nat.zero_mul,Nat.zero_add,List.getElem?_append_left (by rw[hl a List.mem_cons_self];exact hj)]
 | a::rows,k+1,j,r,hl,hk,hj=>by
  have ha:=hl a List.mem_cons_self
  rw[List.flatten_cons,List.getElem?_append_right (by rw[ha,Nat.add_mul];omega),ha,show (k+1)*m+j - m=k*m+j by rw[Nat.add_mul];omega]
  exact yez (fun r hr=>hl r (List.mem_cons_of_mem _ hr)) hk hj
theorem ycj {m:Nat}:∀ {rows:List (List Value)},(∀ r ∈ rows,r.length=m)->rows.flatten.length=rows.length*m
 | [],_=>by simp
 | a::rows,hl=>by
  rw[List.flatten_cons,List.length_append,ycj (fun r hr=>hl r (List.mem_cons_of_mem _ hr)),hl a List.mem_cons_self,List.length_cons,Nat.add_mul]
  omega
theorem ytf {m:Nat} {rows:List (List Value)} {j:Nat} {u:Value} (hl:∀ r ∈ rows,r.length=m) (hm:0<m) (hj:rows.flatten[j]?=some u):∃ r,rows[j / m]?=some r/\r[j % m]?=some u:=by
 have hlt:=(List.getElem?_eq_some_iff.1 hj).1
 rw[ycj hl] at hlt
 have hk:j / m<rows.length:=Nat.div_lt_of_lt_mul (by rw[Nat.mul_comm];exact hlt)
 refine⟨rows[j / m],List.getElem?_eq_getElem hk,?_⟩
 have e:j / m*m+j % m=j:=by rw[Nat.mul_comm];exact Nat.div_add_mod j m
 have h:=yez hl (List.getElem?_eq_getElem hk) (Nat.mod_lt j hm)
 rw[e] at h
 rw[<- h]
 exact hj
theorem ykz {α:Type} {Q:Nat->α->List Value->Prop}:∀ {xs:List α},(∀ (k:Nat) x,xs[k]?=some x->∃ vs,Q k x vs)->∃ rows:List (List Value),rows.length=xs.length/\∀ (k:Nat) x,xs[k]?=some x->∃ vs,rows[k]?=some vs/\Q k x vs:=by
 intro xs
 induction xs generalizing Q with
 | nil=>exact fun _=>⟨[],rfl,fun k x h=>by cases h⟩
 | cons a xs ih=>
  intro h
  obtain⟨v,hv⟩:=h 0 a rfl
  obtain⟨rows,h1,h2⟩:=ih (Q:=fun k x vs=>Q (k+1) x vs) (fun k x hk=>h (k+1) x hk)
  refine⟨v::rows,by rw[List.length_cons,h1,List.length_cons],fun k x hk=>?_⟩
  cases k with
  | zero=>injection hk with hk;subst hk;exact⟨v,rfl,hv⟩
  | succ k=>exact h2 k x hk
def OL {α:Type} (P:Rd α) (m:Nat) (t:TypeId) (base:Nat) (w:World) (B:Nat) (v:Value) (xs:List α):Prop:=
 ∃ rows:List (List Value),rows.length=xs.length/\(∀ (k:Nat) x,xs[k]?=some x->∃ vs,rows[k]?=some vs/\vs.length=m/\P w B vs x)/\w.ownsRow base t m v xs.length rows.flatten
theorem OL.nil {α:Type} {P:Rd α} {m:Nat} {t:TypeId} {base:Nat} {w:World} {B:Nat}:OL P m t base w B (.slice none 0 0) ([]:List α):=⟨[],rfl,(fun k x h=>by cases h),World.ownsRow_nil _ _ _ _⟩
theorem ycl {α:Type} {P:Rd α} {m:Nat} {w:World} {B:Nat} {xs:List α} {rows:List (List Value)} (h1:rows.length=xs.length) (h2:∀ (k:Nat) x,xs[k]?=some x->∃ vs,rows[k]?=some vs/\vs.length=m/\P w B vs x):∀ r ∈ rows,r.length=m:=by
 intro r hr
 obtain⟨k,hk⟩:=List.mem_iff_getElem?.1 hr
 have hlt:=(List.getElem?_eq_some_iff.1 hk).1
 obtain⟨vs,e,h3,_⟩:=h2 k xs[k] (List.getElem?_eq_getElem (by omega))
 rw[hk] at e
 injection e with e
 rw[e];exact h3
theorem OL.vl {α:Type} {P:Rd α} {m:Nat} {t:TypeId} {base:Nat} {w:World} {B:Nat} {v:Value} {xs:List α} (h:OL P m t base w B v xs) (hP:Lifts P) (hB:B<=w.heap.size) (hl:xs.length<=9223372036854775807):VL P m w w.heap.size v xs:=by
 obtain⟨rows,h1,h2,h3⟩:=h
 have hrl:=ycl h1 h2
 have hcells:=fun g=>h3.cells (g:=g)
 rcases h3.2 with ⟨hv,hn⟩|⟨g,cap,cur,hv,_,hg,hcap,_⟩
 ·rw[hv,List.eq_nil_of_length_eq_zero hn]
  exact VL.nil
 ·refine⟨_,_,_,hv,rfl,hcap,hl,(fun e=>by cases e),fun _=>⟨g,0,rfl,(Array.getElem?_eq_some_iff.1 hg).1,fun k x hx=>?_⟩⟩
  obtain⟨vs,e1,e2,e3⟩:=h2 k x hx
  refine⟨vs,e2,fun j u hj=>?_,hP _ _ _ _ _ e3 hB⟩
  have hjm:j<m:=by rw[<- e2];exact(List.getElem?_eq_some_iff.1 hj).1
  have:=hcells g (by rw[hv];rfl) (k*m+j) u (by rw[yez hrl e1 hjm];exact hj)
  have ha:(⟨g,0,none⟩:Addr).add (k*m+j)=⟨g,0+k*m+j,none⟩:=by unfold Addr.add;split<;>simp_all
  rw[ha] at this
  exact this
theorem VL.rows {α:Type} {P:Rd α} {m:Nat} {w:World} {B:Nat} {a:Addr} {n c:Nat} {xs:List α} (h:VL P m w B (.slice (some a) n c) xs) (hm:0<m):∃ rows:List (List Value),rows.length=xs.length/\(∀ (k:Nat) x,xs[k]?=some x->∃ vs,rows[k]?=some vs/\vs.length=m/\P w B vs x)/\∀ j u,rows.flatten[j]?=some u->w.cell? (a.add j)=some u:=by
 obtain⟨rows,h1,h2⟩:=ykz (xs:=xs) (Q:=fun k x vs=>(∃ b off,a=⟨b,off,none⟩/\w.rangeAt b (off+k*m) vs)/\vs.length=m/\P w B vs x) (fun k x hk=>by
  obtain⟨b,off,vs,e,_,g1,g2,g3⟩:=h.get hk
  injection e with e
  exact⟨vs,⟨b,off,e,g2⟩,g1,g3⟩)
 have h3:∀ (k:Nat) x,xs[k]?=some x->∃ vs,rows[k]?=some vs/\vs.length=m/\P w B vs x:=fun k x hk=>by
  obtain⟨vs,e1,_,e2,e3⟩:=h2 k x hk
  exact⟨vs,e1,e2,e3⟩
 refine⟨rows,h1,h3,fun j u hj=>?_⟩
 have hrl:=ycl h1 h3
 obtain⟨r,hr,hu⟩:=ytf hrl hm hj
 have hlt:=(List.getElem?_eq_some_iff.1 hr).1
 obtain⟨vs,e1,⟨b,off,e2,hra⟩,_⟩:=h2 (j / m) xs[j / m] (List.getElem?_eq_getElem (by omega))
 rw[hr] at e1
 injection e1 with e1
 rw[e1] at hu
 have:=hra (j % m) u hu
 rw[e2]
 have ha:(⟨b,off,none⟩:Addr).add j=⟨b,off+j / m*m+j % m,none⟩:=by
  have:=Nat.div_add_mod j m
  rw[Nat.mul_comm] at this
  unfold Addr.add;split<;>simp_all [Nat.add_assoc]
 rw[ha]
 exact this
def Ones {α:Type} (P:Rd α):Prop:=∀ (w:World) (B:Nat) (vs:List Value) (x:α),P w B vs x->∀ u ∈ vs,u.oneCell'=true
theorem ydi {α:Type} {P:Rd α} {m:Nat} {w:World} {B:Nat} {xs:List α} {rows:List (List Value)} (hO:Ones P) (h1:rows.length=xs.length) (h2:∀ (k:Nat) x,xs[k]?=some x->∃ vs,rows[k]?=some vs/\vs.length=m/\P w B vs x):∀ u ∈ rows.flatten,u.oneCell'=true:=by
 intro u hu
 obtain⟨r,hr,hu⟩:=List.mem_flatten.1 hu
 obtain⟨k,hk⟩:=List.mem_iff_getElem?.1 hr
 have hlt:=(List.getElem?_eq_some_iff.1 hk).1
 obtain⟨vs,e,_,h3⟩:=h2 k xs[k] (List.getElem?_eq_getElem (by omega))
 rw[hk] at e
 injection e with e
 exact hO _ _ _ _ h3 u (by rw[<- e];exact hu)
theorem yfw {α:Type} {P:Rd α} {m:Nat} {w:World} {B:Nat} {v:Value} {xs:List α} (h:VL P m w B v xs):v.oneCell'=true:=by
 obtain⟨A,c,rfl,_⟩:=h.val
 rfl
theorem yn7:Ones kStr:=by
 rintro _ _ _ _ ⟨rfl,_⟩ u hu
 simp at hu;subst hu;rfl
theorem yo8:Ones kInt:=by
 rintro _ _ _ _ ⟨rfl,_⟩ u hu
 simp at hu;subst hu;rfl
theorem ygu:Ones kDim:=by
 rintro _ _ _ _ ⟨rfl,_⟩ u hu
 simp at hu
 rcases hu with rfl|rfl|rfl<;>rfl
theorem ykp:Ones kStage:=by
 rintro _ _ _ _ ⟨rfl,_⟩ u hu
 simp at hu
 rcases hu with rfl|rfl|rfl<;>rfl
theorem ym9:Ones kAttr:=by
 rintro _ _ _ _ ⟨v,rfl,_,_,_,h⟩ u hu
 simp at hu
 rcases hu with rfl|rfl|rfl|rfl
 ·rfl
 ·rfl
 ·rfl
 ·exact yfw h
theorem yp5:Ones kVar:=by
 rintro _ _ _ _ ⟨v1,v2,v3,v4,rfl,_,_,_,_,h1,h2,h3,h4⟩ u hu
 simp at hu
 rcases hu with rfl|rfl|rfl|rfl|rfl|rfl|rfl|rfl
 ·rfl
 ·rfl
 ·exact yfw h1
 ·exact yfw h2
 ·rfl
 ·rfl
 ·exact yfw h3
 ·exact yfw h4
theorem yk5:Ones kGroup:=by
 rintro _ _ _ _ ⟨v1,v2,v3,rfl,_,h1,h2,h3⟩ u hu
 simp at hu
 rcases hu with rfl|rfl|rfl|rfl
 ·rfl
 ·exact yfw h1
 ·exact yfw h2
 ·exact yfw h3
theorem Tryz.infoStrC:(Tryz.prog.info? 9).map (fun i=>(i.zero,i.size,i.bytes))=some (some (.string ⟨#[]⟩),1,16):=by kernel_rfl
theorem yc9 (v:Value) (xs:List ByteArray) (w:World) (hV:VL kStr 1 w w.heap.size v xs) (hl:xs.length<=200000000000):Calls Tryz.prog 73 #[v] w fun e w'=>∃ v',e=.returned v'/\OL kStr 1 9 w.heap.size w' w.heap.size v' xs/\Below w.heap.size w w':=by
 obtain⟨i0,hi,hz0,hz1,hz2⟩:=info_parts Tryz.infoStrC
 have qn:∀ (w:World) (a:Option Addr) (n c n' c':Nat),(binOp .eql 36 (.slice a n c) (.slice none n' c')).run Tryz.prog w=.ok (.bool a.isNone) w:=fun w a n c n' c'=>Lib.run_eql_slice_nil w _ _ a n c n' c' Tryz.underlying36
 obtain⟨A,n,c,rfl,h1,h2,h3,h4,h5⟩:=id hV
 clear h5
 rcases A with _|a
 ·have hn:n=0:=by have:=h4 rfl;omega
  subst hn
  have hx:xs=[]:=List.length_eq_zero_iff.1 h1
  subst hx
  clear hV h4
  go_enter Tryz.func73,Tryz.ntmps73
  go_wp2
  go_ret
  exact⟨_,rfl,OL.nil,Below.refl _ _⟩
 ·obtain⟨rows,r1,r2,r3⟩:=VL.rows hV (by decide)
  have r4:=ydi yn7 r1 r2
  have r5:=ycj (ycl r1 r2)
  have RR:=zh (And.intro r1 (And.intro r2 (And.intro r3 (And.intro r4 r5))))
  have HL:=zh (And.intro h1 hl)
  clear hV h4 r1 r2 r3 r4 r5 h1 hl
  go_enter Tryz.func73,Tryz.ntmps73
  go_wp2_with (at_builtin;refine wpList_append_own _ rfl _ _ 36 rfl w.heap.size 9 i0 (.string ⟨#[]⟩) 1 16 Tryz.underlying36 hi hz0 hz1 hz2 rfl (by decide) _ _ _ rfl (World.ownsRow_made w #[] 0 (Nat.le_refl _) (Nat.zero_le _) rfl) a n c rows.flatten rfl ?qc1 ?qc2 ?qc3 ?qc4 ?qc5 ?qc6 ?_)
  case qc1=>rw[RR.out.2.2.2.2,RR.out.1,HL.out.1]
  case qc2=>exact fun j u hj=>Lib.cell?_alloc_some _ (RR.out.2.2.1 j u hj)
  case qc3=>exact RR.out.2.2.2.1
  case qc4=>have:=HL.out;unfold maxLen;omega
  case qc5=>have:=HL.out;omega
  case qc6=>simp
  intro v' w1 hown hgrow _
  have hB:Below w.heap.size w w1:=((Below.refl _ w).alloc (Nat.le_refl _) _).grown hgrow (by simp) (by intro k hk;simp[Value.ownBlock] at hk;omega)
  have HO:=zh hown
  have HB:=zh hB
  clear hown hgrow hB
  go_wp2
  go_ret
  refine⟨v',rfl,⟨rows,RR.out.1,fun k x hk=>?_,?_⟩,HB.out⟩
  ·obtain⟨vs,e1,e2,e3⟩:=RR.out.2.1 k x hk
   exact⟨vs,e1,e2,yav _ _ _ _ _ e3 HB.out⟩
  ·have h:=HO.out
   rw[HL.out.1]
   simpa using h
theorem Tryz.infoIntC:(Tryz.prog.info? 3).map (fun i=>(i.zero,i.size,i.bytes))=some (some (.int .i64 0),1,8):=by kernel_rfl
theorem yfu (v:Value) (xs:List Int) (w:World) (hV:VL kInt 1 w w.heap.size v xs) (hl:xs.length<=200000000000):Calls Tryz.prog 101 #[v] w fun e w'=>∃ v',e=.returned v'/\OL kInt 1 3 w.heap.size w' w.heap.size v' xs/\Below w.heap.size w w':=by
 obtain⟨i0,hi,hz0,hz1,hz2⟩:=info_parts Tryz.infoIntC
 have qn:∀ (w:World) (a:Option Addr) (n c n' c':Nat),(binOp .eql 37 (.slice a n c) (.slice none n' c')).run Tryz.prog w=.ok (.bool a.isNone) w:=fun w a n c n' c'=>Lib.run_eql_slice_nil w _ _ a n c n' c' Tryz.underlying37
 obtain⟨A,n,c,rfl,h1,h2,h3,h4,h5⟩:=id hV
 clear h5
 rcases A with _|a
 ·have hn:n=0:=by have:=h4 rfl;omega
  subst hn
  have hx:xs=[]:=List.length_eq_zero_iff.1 h1
  subst hx
  clear hV h4
  go_enter Tryz.func101,Tryz.ntmps101
  go_wp2
  go_ret
  exact⟨_,rfl,OL.nil,Below.refl _ _⟩
 ·obtain⟨rows,r1,r2,r3⟩:=VL.rows hV (by decide)
  have r4:=ydi yo8 r1 r2
  have r5:=ycj (ycl r1 r2)
  have RR:=zh (And.intro r1 (And.intro r2 (And.intro r3 (And.intro r4 r5))))
  have HL:=zh (And.intro h1 hl)
  clear hV h4 r1 r2 r3 r4 r5 h1 hl
  go_enter Tryz.func101,Tryz.ntmps101
  go_wp2_with (at_builtin;refine wpList_append_own _ rfl _ _ 37 rfl w.heap.size 3 i0 (.int .i64 0) 1 8 Tryz.underlying37 hi hz0 hz1 hz2 rfl (by decide) _ _ _ rfl (World.ownsRow_made w #[] 0 (Nat.le_refl _) (Nat.zero_le _) rfl) a n c rows.flatten rfl ?qc1 ?qc2 ?qc3 ?qc4 ?qc5 ?qc6 ?_)
  case qc1=>rw[RR.out.2.2.2.2,RR.out.1,HL.out.1]
  case qc2=>exact fun j u hj=>Lib.cell?_alloc_some _ (RR.out.2.2.1 j u hj)
  case qc3=>exact RR.out.2.2.2.1
  case qc4=>have:=HL.out;unfold maxLen;omega
  case qc5=>have:=HL.out;omega
  case qc6=>simp
  intro v' w1 hown hgrow _
  have hB:Below w.heap.size w w1:=((Below.refl _ w).alloc (Nat.le_refl _) _).grown hgrow (by simp) (by intro k hk;simp[Value.ownBlock] at hk;omega)
  have HO:=zh hown
  have HB:=zh hB
  clear hown hgrow hB
  go_wp2
  go_ret
  refine⟨v',rfl,⟨rows,RR.out.1,fun k x hk=>?_,?_⟩,HB.out⟩
  ·obtain⟨vs,e1,e2,e3⟩:=RR.out.2.1 k x hk
   exact⟨vs,e1,e2,ybr _ _ _ _ _ e3 HB.out⟩
  ·have h:=HO.out
   rw[HL.out.1]
   simpa using h
theorem Tryz.infoAttrC:(Tryz.prog.info? 43).map (fun i=>(i.zero,i.size,i.bytes))=some (some (.agg #[.string ⟨#[]⟩,.int .i64 0,.string ⟨#[]⟩,.slice none 0 0]),4,64):=by kernel_rfl
theorem ye0 (v:Value) (xs:List AttrD) (w:World) (hV:VL kAttr 4 w w.heap.size v xs) (hl:xs.length<=200000000000):Calls Tryz.prog 100 #[v] w fun e w'=>∃ v',e=.returned v'/\OL kAttr 4 43 w.heap.size w' w.heap.size v' xs/\Below w.heap.size w w':=by
 obtain⟨i0,hi,hz0,hz1,hz2⟩:=info_parts Tryz.infoAttrC
 have qn:∀ (w:World) (a:Option Addr) (n c n' c':Nat),(binOp .eql 39 (.slice a n c) (.slice none n' c')).run Tryz.prog w=.ok (.bool a.isNone) w:=fun w a n c n' c'=>Lib.run_eql_slice_nil w _ _ a n c n' c' Tryz.underlying39
 obtain⟨A,n,c,rfl,h1,h2,h3,h4,h5⟩:=id hV
 clear h5
 rcases A with _|a
 ·have hn:n=0:=by have:=h4 rfl;omega
  subst hn
  have hx:xs=[]:=List.length_eq_zero_iff.1 h1
  subst hx
  clear hV h4
  go_enter Tryz.func100,Tryz.ntmps100
  go_wp2
  go_ret
  exact⟨_,rfl,OL.nil,Below.refl _ _⟩
 ·obtain⟨rows,r1,r2,r3⟩:=VL.rows hV (by decide)
  have r4:=ydi ym9 r1 r2
  have r5:=ycj (ycl r1 r2)
  have RR:=zh (And.intro r1 (And.intro r2 (And.intro r3 (And.intro r4 r5))))
  have HL:=zh (And.intro h1 hl)
  clear hV h4 r1 r2 r3 r4 r5 h1 hl
  go_enter Tryz.func100,Tryz.ntmps100
  go_wp2_with (at_builtin;refine wpList_append_own _ rfl _ _ 39 rfl w.heap.size 43 i0 (.agg #[.string ⟨#[]⟩,.int .i64 0,.string ⟨#[]⟩,.slice none 0 0]) 4 64 Tryz.underlying39 hi hz0 hz1 hz2 rfl (by decide) _ _ _ rfl (World.ownsRow_made w #[] 0 (Nat.le_refl _) (Nat.zero_le _) rfl) a n c rows.flatten rfl ?qc1 ?qc2 ?qc3 ?qc4 ?qc5 ?qc6 ?_)
  case qc1=>rw[RR.out.2.2.2.2,RR.out.1,HL.out.1]
  case qc2=>exact fun j u hj=>Lib.cell?_alloc_some _ (RR.out.2.2.1 j u hj)
  case qc3=>exact RR.out.2.2.2.1
  case qc4=>have:=HL.out;unfold maxLen;omega
  case qc5=>have:=HL.out;omega
  case qc6=>simp
  intro v' w1 hown hgrow _
  have hB:Below w.heap.size w w1:=((Below.refl _ w).alloc (Nat.le_refl _) _).grown hgrow (by simp) (by intro k hk;simp[Value.ownBlock] at hk;omega)
  have HO:=zh hown
  have HB:=zh hB
  clear hown hgrow hB
  go_wp2
  go_ret
  refine⟨v',rfl,⟨rows,RR.out.1,fun k x hk=>?_,?_⟩,HB.out⟩
  ·obtain⟨vs,e1,e2,e3⟩:=RR.out.2.1 k x hk
   exact⟨vs,e1,e2,yaq _ _ _ _ _ e3 HB.out⟩
  ·have h:=HO.out
   rw[HL.out.1]
   simpa using h
theorem Tryz.infoStageC:(Tryz.prog.info? 130).map (fun i=>(i.zero,i.size,i.bytes))=some (some (.agg #[.int .i64 0,.int .i64 0,.string ⟨#[]⟩]),3,32):=by kernel_rfl
theorem yeo (v:Value) (xs:List StageD) (w:World) (hV:VL kStage 3 w w.heap.size v xs) (hl:xs.length<=200000000000):Calls Tryz.prog 102 #[v] w fun e w'=>∃ v',e=.returned v'/\OL kStage 3 130 w.heap.size w' w.heap.size v' xs/\Below w.heap.size w w':=by
 obtain⟨i0,hi,hz0,hz1,hz2⟩:=info_parts Tryz.infoStageC
 have qn:∀ (w:World) (a:Option Addr) (n c n' c':Nat),(binOp .eql 38 (.slice a n c) (.slice none n' c')).run Tryz.prog w=.ok (.bool a.isNone) w:=fun w a n c n' c'=>Lib.run_eql_slice_nil w _ _ a n c n' c' Tryz.underlying38
 obtain⟨A,n,c,rfl,h1,h2,h3,h4,h5⟩:=id hV
 clear h5
 rcases A with _|a
 ·have hn:n=0:=by have:=h4 rfl;omega
  subst hn
  have hx:xs=[]:=List.length_eq_zero_iff.1 h1
  subst hx
  clear hV h4
  go_enter Tryz.func102,Tryz.ntmps102
  go_wp2
  go_ret
  exact⟨_,rfl,OL.nil,Below.refl _ _⟩
 ·obtain⟨rows,r1,r2,r3⟩:=VL.rows hV (by decide)
  have r4:=ydi ykp r1 r2
  have r5:=ycj (ycl r1 r2)
  have RR:=zh (And.intro r1 (And.intro r2 (And.intro r3 (And.intro r4 r5))))
  have HL:=zh (And.intro h1 hl)
  clear hV h4 r1 r2 r3 r4 r5 h1 hl
  go_enter Tryz.func102,Tryz.ntmps102
  go_wp2_with (at_builtin;refine wpList_append_own _ rfl _ _ 38 rfl w.heap.size 130 i0 (.agg #[.int .i64 0,.int .i64 0,.string ⟨#[]⟩]) 3 32 Tryz.underlying38 hi hz0 hz1 hz2 rfl (by decide) _ _ _ rfl (World.ownsRow_made w #[] 0 (Nat.le_refl _) (Nat.zero_le _) rfl) a n c rows.flatten rfl ?qc1 ?qc2 ?qc3 ?qc4 ?qc5 ?qc6 ?_)
  case qc1=>rw[RR.out.2.2.2.2,RR.out.1,HL.out.1]
  case qc2=>exact fun j u hj=>Lib.cell?_alloc_some _ (RR.out.2.2.1 j u hj)
  case qc3=>exact RR.out.2.2.2.1
  case qc4=>have:=HL.out;unfold maxLen;omega
  case qc5=>have:=HL.out;omega
  case qc6=>simp
  intro v' w1 hown hgrow _
  have hB:Below w.heap.size w w1:=((Below.refl _ w).alloc (Nat.le_refl _) _).grown hgrow (by simp) (by intro k hk;simp[Value.ownBlock] at hk;omega)
  have HO:=zh hown
  have HB:=zh hB
  clear hown hgrow hB
  go_wp2
  go_ret
  refine⟨v',rfl,⟨rows,RR.out.1,fun k x hk=>?_,?_⟩,HB.out⟩
  ·obtain⟨vs,e1,e2,e3⟩:=RR.out.2.1 k x hk
   exact⟨vs,e1,e2,ybe _ _ _ _ _ e3 HB.out⟩
  ·have h:=HO.out
   rw[HL.out.1]
   simpa using h
theorem Tryz.infoDimC:(Tryz.prog.info? 26).map (fun i=>(i.zero,i.size,i.bytes))=some (some (.agg #[.string ⟨#[]⟩,.int .i64 0,.bool false]),3,32):=by kernel_rfl
theorem ykc (v:Value) (xs:List DimD) (w:World) (hV:VL kDim 3 w w.heap.size v xs) (hl:xs.length<=200000000000):Calls Tryz.prog 53 #[v] w fun e w'=>∃ v',e=.returned v'/\OL kDim 3 26 w.heap.size w' w.heap.size v' xs/\Below w.heap.size w w':=by
 obtain⟨i0,hi,hz0,hz1,hz2⟩:=info_parts Tryz.infoDimC
 have qn:∀ (w:World) (a:Option Addr) (n c n' c':Nat),(binOp .eql 52 (.slice a n c) (.slice none n' c')).run Tryz.prog w=.ok (.bool a.isNone) w:=fun w a n c n' c'=>Lib.run_eql_slice_nil w _ _ a n c n' c' Tryz.underlying52
 obtain⟨A,n,c,rfl,h1,h2,h3,h4,h5⟩:=id hV
 clear h5
 rcases A with _|a
 ·have hn:n=0:=by have:=h4 rfl;omega
  subst hn
  have hx:xs=[]:=List.length_eq_zero_iff.1 h1
  subst hx
  clear hV h4
  go_enter Tryz.func53,Tryz.ntmps53
  go_wp2
  go_ret
  exact⟨_,rfl,OL.nil,Below.refl _ _⟩
 ·obtain⟨rows,r1,r2,r3⟩:=VL.rows hV (by decide)
  have r4:=ydi ygu r1 r2
  have r5:=ycj (ycl r1 r2)
  have RR:=zh (And.intro r1 (And.intro r2 (And.intro r3 (And.intro r4 r5))))
  have HL:=zh (And.intro h1 hl)
  clear hV h4 r1 r2 r3 r4 r5 h1 hl
  go_enter Tryz.func53,Tryz.ntmps53
  go_wp2_with (at_builtin;refine wpList_append_own _ rfl _ _ 52 rfl w.heap.size 26 i0 (.agg #[.string ⟨#[]⟩,.int .i64 0,.bool false]) 3 32 Tryz.underlying52 hi hz0 hz1 hz2 rfl (by decide) _ _ _ rfl (World.ownsRow_made w #[] 0 (Nat.le_refl _) (Nat.zero_le _) rfl) a n c rows.flatten rfl ?qc1 ?qc2 ?qc3 ?qc4 ?qc5 ?qc6 ?_)
  case qc1=>rw[RR.out.2.2.2.2,RR.out.1,HL.out.1]
  case qc2=>exact fun j u hj=>Lib.cell?_alloc_some _ (RR.out.2.2.1 j u hj)
  case qc3=>exact RR.out.2.2.2.1
  case qc4=>have:=HL.out;unfold maxLen;omega
  case qc5=>have:=HL.out;omega
  case qc6=>simp
  intro v' w1 hown hgrow _
  have hB:Below w.heap.size w w1:=((Below.refl _ w).alloc (Nat.le_refl _) _).grown hgrow (by simp) (by intro k hk;simp[Value.ownBlock] at hk;omega)
  have HO:=zh hown
  have HB:=zh hB
  clear hown hgrow hB
  go_wp2
  go_ret
  refine⟨v',rfl,⟨rows,RR.out.1,fun k x hk=>?_,?_⟩,HB.out⟩
  ·obtain⟨vs,e1,e2,e3⟩:=RR.out.2.1 k x hk
   exact⟨vs,e1,e2,ybh _ _ _ _ _ e3 HB.out⟩
  ·have h:=HO.out
   rw[HL.out.1]
   simpa using h
theorem Tryz.infoVarC:(Tryz.prog.info? 41).map (fun i=>(i.zero,i.size,i.bytes))=some (some (.agg #[.string ⟨#[]⟩,.int .i64 0,.slice none 0 0,.slice none 0 0,.string ⟨#[]⟩,.string ⟨#[]⟩,.slice none 0 0,.slice none 0 0]),8,152):=by kernel_rfl
theorem Tryz.infoGroupC:(Tryz.prog.info? 55).map (fun i=>(i.zero,i.size,i.bytes))=some (some (.agg #[.string ⟨#[]⟩,.slice none 0 0,.slice none 0 0,.slice none 0 0]),4,88):=by kernel_rfl
theorem yg7 (v:Value) (xs:List GroupD) (w:World) (hV:VL kGroup 4 w w.heap.size v xs) (hl:xs.length<=200000000000):Calls Tryz.prog 52 #[v] w fun e w'=>∃ v',e=.returned v'/\OL kGroup 4 55 w.heap.size w' w.heap.size v' xs/\Below w.heap.size w w':=by
 obtain⟨i0,hi,hz0,hz1,hz2⟩:=info_parts Tryz.infoGroupC
 have qn:∀ (w:World) (a:Option Addr) (n c n' c':Nat),(binOp .eql 22 (.slice a n c) (.slice none n' c')).run Tryz.prog w=.ok (.bool a.isNone) w:=fun w a n c n' c'=>Lib.run_eql_slice_nil w _ _ a n c n' c' Tryz.underlying22
 obtain⟨A,n,c,rfl,h1,h2,h3,h4,h5⟩:=id hV
 clear h5
 rcases A with _|a
 ·have hn:n=0:=by have:=h4 rfl;omega
  subst hn
  have hx:xs=[]:=List.length_eq_zero_iff.1 h1
  subst hx
  clear hV h4
  go_enter Tryz.func52,Tryz.ntmps52
  go_wp2
  go_ret
  exact⟨_,rfl,OL.nil,Below.refl _ _⟩
 ·obtain⟨rows,r1,r2,r3⟩:=VL.rows hV (by decide)
  have r4:=ydi yk5 r1 r2
  have r5:=ycj (ycl r1 r2)
  have RR:=zh (And.intro r1 (And.intro r2 (And.intro r3 (And.intro r4 r5))))
  have HL:=zh (And.intro h1 hl)
  clear hV h4 r1 r2 r3 r4 r5 h1 hl
  go_enter Tryz.func52,Tryz.ntmps52
  go_wp2_with (at_builtin;refine wpList_append_own _ rfl _ _ 22 rfl w.heap.size 55 i0 (.agg #[.string ⟨#[]⟩,.slice none 0 0,.slice none 0 0,.slice none 0 0]) 4 88 Tryz.underlying22 hi hz0 hz1 hz2 rfl (by decide) _ _ _ rfl (World.ownsRow_made w #[] 0 (Nat.le_refl _) (Nat.zero_le _) rfl) a n c rows.flatten rfl ?qc1 ?qc2 ?qc3 ?qc4 ?qc5 ?qc6 ?_)
  case qc1=>rw[RR.out.2.2.2.2,RR.out.1,HL.out.1]
  case qc2=>exact fun j u hj=>Lib.cell?_alloc_some _ (RR.out.2.2.1 j u hj)
  case qc3=>exact RR.out.2.2.2.1
  case qc4=>have:=HL.out;unfold maxLen;omega
  case qc5=>have:=HL.out;omega
  case qc6=>simp
  intro v' w1 hown hgrow _
  have hB:Below w.heap.size w w1:=((Below.refl _ w).alloc (Nat.le_refl _) _).grown hgrow (by simp) (by intro k hk;simp[Value.ownBlock] at hk;omega)
  have HO:=zh hown
  have HB:=zh hB
  clear hown hgrow hB
  go_wp2
  go_ret
  refine⟨v',rfl,⟨rows,RR.out.1,fun k x hk=>?_,?_⟩,HB.out⟩
  ·obtain⟨vs,e1,e2,e3⟩:=RR.out.2.1 k x hk
   exact⟨vs,e1,e2,yah _ _ _ _ _ e3 HB.out⟩
  ·have h:=HO.out
   rw[HL.out.1]
   simpa using h
open Go.RowKit Dg Q Num Str
def Flat {α:Type} (P:Rd α):Prop:=∀ (w w':World) (B B':Nat) (vs:List Value) (x:α),P w B vs x->P w' B' vs x
theorem yaf:Flat kStr:=fun _ _ _ _ _ _ h=>h
theorem yak:Flat kInt:=fun _ _ _ _ _ _ h=>h
theorem ya7:Flat kStage:=fun _ _ _ _ _ _ h=>h
theorem ycr {w w':World} {base e m n:Nat} {v:Value} {xs:List Value} (h:w.ownsRow base e m v n xs) (hw:∀ g,base<=g->g<w.heap.size->w'.heap[g]?=w.heap[g]?):w'.ownsRow base e m v n xs:=by
 obtain⟨h1,h2⟩:=h
 refine⟨h1,?_⟩
 rcases h2 with h2|⟨g,cap,cur,e1,e2,e3,e4⟩
 ·exact .inl h2
 ·exact .inr ⟨g,cap,cur,e1,e2,(hw g e2 (Array.getElem?_eq_some_iff.1 e3).1).trans e3,e4⟩
theorem OL.blocks {α:Type} {P:Rd α} {m:Nat} {t:TypeId} {base B B':Nat} {w w':World} {v:Value} {xs:List α} (h:OL P m t base w B v xs) (hP:Flat P) (hw:∀ g,base<=g->g<w.heap.size->w'.heap[g]?=w.heap[g]?):OL P m t base w' B' v xs:=by
 obtain⟨rows,h1,h2,h3⟩:=h
 refine⟨rows,h1,fun k x hk=>?_,ycr h3 hw⟩
 obtain⟨vs,e1,e2,e3⟩:=h2 k x hk
 exact⟨vs,e1,e2,hP _ _ _ _ _ _ e3⟩
theorem OL.up {α:Type} {P:Rd α} {m:Nat} {t:TypeId} {base B B':Nat} {w w':World} {v:Value} {xs:List α} (h:OL P m t base w B v xs) (hP:Flat P) (hb:Below w.heap.size w w'):OL P m t base w' B' v xs:=h.blocks hP fun g _ hg=>hb.block g hg
theorem OL.base {α:Type} {P:Rd α} {m:Nat} {t:TypeId} {base base' B:Nat} {w:World} {v:Value} {xs:List α} (h:OL P m t base w B v xs) (hb:base'<=base):OL P m t base' w B v xs:=by
 obtain⟨rows,h1,h2,h3⟩:=h
 refine⟨rows,h1,h2,h3.1,?_⟩
 rcases h3.2 with h4|⟨g,cap,cur,e1,e2,e3⟩
 ·exact .inl h4
 ·exact .inr ⟨g,cap,cur,e1,Nat.le_trans hb e2,e3⟩
theorem OL.val {α:Type} {P:Rd α} {m:Nat} {t:TypeId} {base B:Nat} {w:World} {v:Value} {xs:List α} (h:OL P m t base w B v xs):∃ A c,v=.slice A xs.length c:=by
 obtain⟨rows,h1,h2,h3⟩:=h
 rcases h3.2 with ⟨hv,hn⟩|⟨g,cap,cur,hv,_⟩
 ·rw[hv,hn];exact⟨_,_,rfl⟩
 ·rw[hv];exact⟨_,_,rfl⟩
theorem yiw (A:Option Addr) (c:Nat) (w:World) (hV:VL kAttr 4 w w.heap.size (.slice A 0 c) []):Calls Tryz.prog 55 #[.slice A 0 c] w fun e w'=>∃ A' c',e=.returned (.slice A' 0 c')/\(A'=none->c'=0)/\Below w.heap.size w w':=by
 have CL:=ye0 (.slice A 0 c) [] w hV (by decide)
 clear hV
 go_enter Tryz.func55,Tryz.ntmps55
 go_wp2_with (go_at_call 100;(with_reducible refine CL.mono ?_);rintro e w1 ⟨v',rfl,ho,hb⟩;have hz:=ho.vl yap hb.size (by decide);obtain⟨A',n',c',rfl,h1,_,_,h4,_⟩:=hz;have h1:=h1.symm;simp only[List.length_nil] at h1;subst h1;have b1:=zh (And.intro h4 hb);clear hb ho h4)
 refine wp_loop_rounds 1 ?_
 rw[rounds_succ]
 go_wp2
 go_ret
 exact⟨A',c',rfl,b1.out.1,b1.out.2⟩
theorem ynt (x:VarD) (v1 v2 v3 v4:Value) (w:World) (hd1:VL kStr 1 w w.heap.size v1 x.dims) (hd2:VL kInt 1 w w.heap.size v2 x.chunks) (hd3:VL kStage 3 w w.heap.size v3 x.stages) (hd4:VL kAttr 4 w w.heap.size v4 []) (hl:x.dims.length<=1000000000/\x.chunks.length<=1000000000/\x.stages.length<=1000000000) :
  Calls Tryz.prog 56 #[.agg #[.string x.name,.int .i64 x.typ,v1,v2,.string x.fill,.string x.unit,v3,v4]] w fun e w'=>∃ E1 d1 E2 d2 E3 d3 E4 d4,e=.returned (.agg #[.string x.name,.int .i64 x.typ,.slice E1 x.dims.length d1,.slice E2 x.chunks.length d2,.string x.fill,.string x.unit,.slice E3 x.stages.length d3,.slice E4 0 d4])/\
   OL kStr 1 9 w.heap.size w' 0 (.slice E1 x.dims.length d1) x.dims/\OL kInt 1 3 w.heap.size w' 0 (.slice E2 x.chunks.length d2) x.chunks/\OL kStage 3 130 w.heap.size w' 0 (.slice E3 x.stages.length d3) x.stages/\VL kAttr 4 w' w'.heap.size (.slice E4 0 d4) []/\Below w.heap.size w w':=by
 obtain⟨A1,c1,rfl,_,_⟩:=hd1.val
 obtain⟨A2,c2,rfl,_,_⟩:=hd2.val
 obtain⟨A3,c3,rfl,_,_⟩:=hd3.val
 obtain⟨A4,c4,rfl,_,_⟩:=hd4.val
 have C1:=fun w2 (hb:Below w.heap.size w w2)=>yc9 _ _ w2 ((VL.keeps yav hd1 hb).lifts yao hb.size) (by omega)
 have C2:=fun w2 (hb:Below w.heap.size w w2)=>yfu _ _ w2 ((VL.keeps ybr hd2 hb).lifts ybg hb.size) (by omega)
 have C3:=fun w2 (hb:Below w.heap.size w w2)=>yeo _ _ w2 ((VL.keeps ybe hd3 hb).lifts ya5 hb.size) (by omega)
 have C4:=fun w2 (hb:Below w.heap.size w w2)=>yiw A4 c4 w2 ((VL.keeps yaq hd4 hb).lifts yap hb.size)
 have HN:=zh hl
 clear hd1 hd2 hd3 hd4 hl
 go_enter Tryz.func56,Tryz.ntmps56
 go_wp2_with fail
 have kx:Bk ((w.alloc (.cells #[.string x.name,.int .i64 x.typ,.slice A1 x.dims.length c1,.slice A2 x.chunks.length c2,.string x.fill,.string x.unit,.slice A3 x.stages.length c3,.slice A4 0 c4] 41)).alloc (.cells #[.string ⟨#[]⟩,.int .i64 0,.slice none 0 0,.slice none 0 0,.string ⟨#[]⟩,.string ⟨#[]⟩,.slice none 0 0,.slice none 0 0] 41)) w.heap.size #[.string x.name,.int .i64 x.typ,.slice A1 x.dims.length c1,.slice A2 x.chunks.length c2,.string x.fill,.string x.unit,.slice A3 x.stages.length c3,.slice A4 0 c4] 41:=(Bk.new w _ _).alloc
 have zx:((w.alloc (.cells #[.string x.name,.int .i64 x.typ,.slice A1 x.dims.length c1,.slice A2 x.chunks.length c2,.string x.fill,.string x.unit,.slice A3 x.stages.length c3,.slice A4 0 c4] 41)).alloc (.cells #[.string ⟨#[]⟩,.int .i64 0,.slice none 0 0,.slice none 0 0,.string ⟨#[]⟩,.string ⟨#[]⟩,.slice none 0 0,.slice none 0 0] 41)).heap.size=w.heap.size+2:=by simp
 have zy:(w.alloc (.cells #[.string x.name,.int .i64 x.typ,.slice A1 x.dims.length c1,.slice A2 x.chunks.length c2,.string x.fill,.string x.unit,.slice A3 x.stages.length c3,.slice A4 0 c4] 41)).heap.size=w.heap.size+1:=by simp
 have kz:Bk ((w.alloc (.cells #[.string x.name,.int .i64 x.typ,.slice A1 x.dims.length c1,.slice A2 x.chunks.length c2,.string x.fill,.string x.unit,.slice A3 x.stages.length c3,.slice A4 0 c4] 41)).alloc (.cells #[.string ⟨#[]⟩,.int .i64 0,.slice none 0 0,.slice none 0 0,.string ⟨#[]⟩,.string ⟨#[]⟩,.slice none 0 0,.slice none 0 0] 41)) (w.heap.size+1) #[.string ⟨#[]⟩,.int .i64 0,.slice none 0 0,.slice none 0 0,.string ⟨#[]⟩,.string ⟨#[]⟩,.slice none 0 0,.slice none 0 0] 41:=by
  have:=Bk.new (w.alloc (.cells #[.string x.name,.int .i64 x.typ,.slice A1 x.dims.length c1,.slice A2 x.chunks.length c2,.string x.fill,.string x.unit,.slice A3 x.stages.length c3,.slice A4 0 c4] 41)) #[.string ⟨#[]⟩,.int .i64 0,.slice none 0 0,.slice none 0 0,.string ⟨#[]⟩,.string ⟨#[]⟩,.slice none 0 0,.slice none 0 0] 41
  rwa [zy] at this
 have bx:Below w.heap.size w ((w.alloc (.cells #[.string x.name,.int .i64 x.typ,.slice A1 x.dims.length c1,.slice A2 x.chunks.length c2,.string x.fill,.string x.unit,.slice A3 x.stages.length c3,.slice A4 0 c4] 41)).alloc (.cells #[.string ⟨#[]⟩,.int .i64 0,.slice none 0 0,.slice none 0 0,.string ⟨#[]⟩,.string ⟨#[]⟩,.slice none 0 0,.slice none 0 0] 41)):=by (repeat (first|exact zJ _ _|assumption|refine yab ?_ _|refine zL ?_|refine yac ?_ (by assumption)|refine yaa ?_ _|refine zO ?_ (by simp<;>omega) _|refine zP ?_ (by simp<;>omega) _))
 generalize hwx:(w.alloc (.cells #[.string x.name,.int .i64 x.typ,.slice A1 x.dims.length c1,.slice A2 x.chunks.length c2,.string x.fill,.string x.unit,.slice A3 x.stages.length c3,.slice A4 0 c4] 41)).alloc (.cells #[.string ⟨#[]⟩,.int .i64 0,.slice none 0 0,.slice none 0 0,.string ⟨#[]⟩,.string ⟨#[]⟩,.slice none 0 0,.slice none 0 0] 41)=wx at *
 have HB:=zh (show ∀ w2,Below wx.heap.size wx w2->Below w.heap.size w w2 from fun w2 hb=>bx.trans (hb.mono bx.size))
 have HZ:=zh zx
 clear hwx zy bx
 refine wp_region_noPanic ?_
 refine xStartH (E:=[12,13,14,15,16,17,18,19]) (S:=fun w'=>Bk w' w.heap.size #[.string x.name,.int .i64 x.typ,.slice A1 x.dims.length c1,.slice A2 x.chunks.length c2,.string x.fill,.string x.unit,.slice A3 x.stages.length c3,.slice A4 0 c4] 41/\Bk w' (w.heap.size+1) #[.string ⟨#[]⟩,.int .i64 0,.slice none 0 0,.slice none 0 0,.string ⟨#[]⟩,.string ⟨#[]⟩,.slice none 0 0,.slice none 0 0] 41/\Below wx.heap.size wx w') (by kernel_rfl) ⟨kx,kz,Below.drew (Below.refl _ _)⟩ fun hHeld=>?_
 generalize hw0:wx.drew=w0 at hHeld ⊢
 clear hw0 kx kz zx
 refine xVal 0 3 (.pointer (some ⟨w.heap.size,2,none⟩)) hHeld (by kernel_rfl) (fun w' hSw=>?_) ?_
 ·simp only[List.getElem?_toArray,List.getElem?_cons_zero,Option.map_some,Option.some.injEq];first|(go_simp;done)|(with_reducible rfl)|(go_simp;omega)|(go_simp;go_show;fail)
 simp only[Act.put,zB,zC,zD]
 refine xVal 3 6 (.pointer (some ⟨w.heap.size,3,none⟩)) hHeld (by kernel_rfl) (fun w' hSw=>?_) ?_
 ·simp only[zE,zF,zG,zH,zI];first|(go_simp;done)|(with_reducible rfl)|(go_simp;omega)
 simp only[Act.put,zB,zC,zD]
 refine xVal 6 9 (.pointer (some ⟨w.heap.size,6,none⟩)) hHeld (by kernel_rfl) (fun w' hSw=>?_) ?_
 ·simp only[zE,zF,zG,zH,zI];first|(go_simp;done)|(with_reducible rfl)|(go_simp;omega)
 simp only[Act.put,zB,zC,zD]
 refine xVal 9 12 (.pointer (some ⟨w.heap.size,7,none⟩)) hHeld (by kernel_rfl) (fun w' hSw=>?_) ?_
 ·simp only[zE,zF,zG,zH,zI];first|(go_simp;done)|(with_reducible rfl)|(go_simp;omega)
 simp only[Act.put,zB,zC,zD]
 refine xVal 1 4 (.slice A1 x.dims.length c1) hHeld (by kernel_rfl) (fun w' hSw=>?_) ?_
 ·have q1:=hSw.1.cell 2;simp only[List.getElem?_toArray,List.getElem?_cons_succ,List.getElem?_cons_zero] at q1;simp only[zE,zF,zG,zH,zI];first|(go_simp;done)|(with_reducible rfl)|(go_simp;omega)
 simp only[Act.put,zB,zC,zD]
 refine xVal 4 7 (.slice A2 x.chunks.length c2) hHeld (by kernel_rfl) (fun w' hSw=>?_) ?_
 ·have q1:=hSw.1.cell 3;simp only[List.getElem?_toArray,List.getElem?_cons_succ,List.getElem?_cons_zero] at q1;simp only[zE,zF,zG,zH,zI];first|(go_simp;done)|(with_reducible rfl)|(go_simp;omega)
 simp only[Act.put,zB,zC,zD]
 refine xVal 7 10 (.slice A3 x.stages.length c3) hHeld (by kernel_rfl) (fun w' hSw=>?_) ?_
 ·have q1:=hSw.1.cell 6;simp only[List.getElem?_toArray,List.getElem?_cons_succ,List.getElem?_cons_zero] at q1;simp only[zE,zF,zG,zH,zI];first|(go_simp;done)|(with_reducible rfl)|(go_simp;omega)
 simp only[Act.put,zB,zC,zD]
 refine xVal 10 13 (.slice A4 0 c4) hHeld (by kernel_rfl) (fun w' hSw=>?_) ?_
 ·have q1:=hSw.1.cell 7;simp only[List.getElem?_toArray,List.getElem?_cons_succ,List.getElem?_cons_zero] at q1;simp only[zE,zF,zG,zH,zI];first|(go_simp;done)|(with_reducible rfl)|(go_simp;omega)
 simp only[Act.put,zB,zC,zD]
 refine xEnter 2 5 73 #[.slice A1 x.dims.length c1] (by kernel_rfl) (by kernel_rfl) (by kernel_rfl) (C1 _ (HB.out _ hHeld.2.2)) ?_
 rintro e w1 ⟨v',rfl,ho,hb⟩
 obtain⟨E1,d1,rfl⟩:=ho.val
 have O1:=zh (ho.base (base':=w.heap.size+2) (by have:=hHeld.2.2.size;have:=HZ.out;omega))
 clear ho
 refine⟨_,rfl,⟨Bk.up hHeld.1 hb,Bk.up hHeld.2.1 hb,yac hHeld.2.2 hb⟩,fun hHeld=>?_⟩
 clear hb
 simp only[Act.put,zB,zC,zD]
 refine xPure 12 15 (.pointer (some ⟨w.heap.size,2,none⟩)) (by kernel_rfl) (fun w'=>?_) ?_
 ·simp only[zE,zF,zG,zH,zI];first|(go_simp;done)|(with_reducible rfl)|(go_simp;omega)
 simp only[Act.put,zB,zC,zD]
 refine xEnter 5 8 101 #[.slice A2 x.chunks.length c2] (by kernel_rfl) (by kernel_rfl) (by kernel_rfl) (C2 _ (HB.out _ hHeld.2.2)) ?_
 rintro e w2 ⟨v',rfl,ho,hb⟩
 have O1:=zh (O1.out.up yaf hb (B':=0))
 obtain⟨E2,d2,rfl⟩:=ho.val
 have O2:=zh (ho.base (base':=w.heap.size+2) (by have:=hHeld.2.2.size;have:=HZ.out;omega))
 clear ho
 refine⟨_,rfl,⟨Bk.up hHeld.1 hb,Bk.up hHeld.2.1 hb,yac hHeld.2.2 hb⟩,fun hHeld=>?_⟩
 clear hb
 simp only[Act.put,zB,zC,zD]
 refine xEnter 8 11 102 #[.slice A3 x.stages.length c3] (by kernel_rfl) (by kernel_rfl) (by kernel_rfl) (C3 _ (HB.out _ hHeld.2.2)) ?_
 rintro e w3 ⟨v',rfl,ho,hb⟩
 have O1:=zh (O1.out.up yaf hb (B':=0))
 have O2:=zh (O2.out.up yak hb (B':=0))
 obtain⟨E3,d3,rfl⟩:=ho.val
 have O3:=zh (ho.base (base':=w.heap.size+2) (by have:=hHeld.2.2.size;have:=HZ.out;omega))
 clear ho
 refine⟨_,rfl,⟨Bk.up hHeld.1 hb,Bk.up hHeld.2.1 hb,yac hHeld.2.2 hb⟩,fun hHeld=>?_⟩
 clear hb
 simp only[Act.put,zB,zC,zD]
 refine xEnter 11 14 55 #[.slice A4 0 c4] (by kernel_rfl) (by kernel_rfl) (by kernel_rfl) (C4 _ (HB.out _ hHeld.2.2)) ?_
 rintro e w4 ⟨E4,d4,rfl,hE4,hb⟩
 have O1:=zh (O1.out.up yaf hb (B':=0))
 have O2:=zh (O2.out.up yak hb (B':=0))
 have O3:=zh (O3.out.up ya7 hb (B':=0))
 refine⟨_,rfl,⟨Bk.up hHeld.1 hb,Bk.up hHeld.2.1 hb,yac hHeld.2.2 hb⟩,fun hHeld=>?_⟩
 clear hb
 simp only[Act.put,zB,zC,zD]
 have K0:=zh hHeld.1
 have Z0:=zh hHeld.2.1
 have B0:=zh hHeld.2.2
 clear hHeld
 have q1:=K0.out.cell 2
 have q2:=K0.out.frozen 2
 simp only[List.getElem?_toArray,List.getElem?_cons_succ,List.getElem?_cons_zero] at q1
 refine xStore 13 (w4.setCell ⟨w.heap.size,2,none⟩ (.slice E1 x.dims.length d1)) (by kernel_rfl) (by kernel_rfl) ?_ (fun h=>absurd (by decide) h) ?_
 ·simp only[zE,zF,zG,zH,zI];first|(go_simp;done)|(with_reducible rfl)|(go_simp;omega)
 try simp only[Act.put,zB,zC,zD]
 have K1:=zh (K0.out.set (i:=2) (.slice E1 x.dims.length d1))
 simp only[List.setIfInBounds_toArray,List.set_cons_zero,List.set_cons_succ] at K1
 have Z1:=zh (Z0.out.set_other (h:=w.heap.size) (i:=2) (.slice E1 x.dims.length d1) (by omega))
 clear q1 q2
 refine xPure 14 16 (.pointer (some ⟨w.heap.size,3,none⟩)) (by kernel_rfl) (fun w'=>?_) ?_
 ·simp only[zE,zF,zG,zH,zI];first|(go_simp;done)|(with_reducible rfl)|(go_simp;omega)
 simp only[Act.put,zB,zC,zD]
 have q1:=K1.out.cell 3
 have q2:=K1.out.frozen 3
 simp only[List.getElem?_toArray,List.getElem?_cons_succ,List.getElem?_cons_zero] at q1
 refine xStore 15 ((w4.setCell ⟨w.heap.size,2,none⟩ (.slice E1 x.dims.length d1)).setCell ⟨w.heap.size,3,none⟩ (.slice E2 x.chunks.length d2)) (by kernel_rfl) (by kernel_rfl) ?_ (fun h=>absurd (by decide) h) ?_
 ·simp only[zE,zF,zG,zH,zI];first|(go_simp;done)|(with_reducible rfl)|(go_simp;omega)
 try simp only[Act.put,zB,zC,zD]
 have K2:=zh (K1.out.set (i:=3) (.slice E2 x.chunks.length d2))
 simp only[List.setIfInBounds_toArray,List.set_cons_zero,List.set_cons_succ] at K2
 have Z2:=zh (Z1.out.set_other (h:=w.heap.size) (i:=3) (.slice E2 x.chunks.length d2) (by omega))
 clear q1 q2
 refine xPure 16 17 (.pointer (some ⟨w.heap.size,6,none⟩)) (by kernel_rfl) (fun w'=>?_) ?_
 ·simp only[zE,zF,zG,zH,zI];first|(go_simp;done)|(with_reducible rfl)|(go_simp;omega)
 simp only[Act.put,zB,zC,zD]
 have q1:=K2.out.cell 6
 have q2:=K2.out.frozen 6
 simp only[List.getElem?_toArray,List.getElem?_cons_succ,List.getElem?_cons_zero] at q1
 refine xStore 17 (((w4.setCell ⟨w.heap.size,2,none⟩ (.slice E1 x.dims.length d1)).setCell ⟨w.heap.size,3,none⟩ (.slice E2 x.chunks.length d2)).setCell ⟨w.heap.size,6,none⟩ (.slice E3 x.stages.length d3)) (by kernel_rfl) (by kernel_rfl) ?_ (fun h=>absurd (by decide) h) ?_
 ·simp only[zE,zF,zG,zH,zI];first|(go_simp;done)|(with_reducible rfl)|(go_simp;omega)
 try simp only[Act.put,zB,zC,zD]
 have K3:=zh (K2.out.set (i:=6) (.slice E3 x.stages.length d3))
 simp only[List.setIfInBounds_toArray,List.set_cons_zero,List.set_cons_succ] at K3
 have Z3:=zh (Z2.out.set_other (h:=w.heap.size) (i:=6) (.slice E3 x.stages.length d3) (by omega))
 clear q1 q2
 refine xPure 18 18 (.pointer (some ⟨w.heap.size,7,none⟩)) (by kernel_rfl) (fun w'=>?_) ?_
 ·simp only[zE,zF,zG,zH,zI];first|(go_simp;done)|(with_reducible rfl)|(go_simp;omega)
 simp only[Act.put,zB,zC,zD]
 have q1:=K3.out.cell 7
 have q2:=K3.out.frozen 7
 simp only[List.getElem?_toArray,List.getElem?_cons_succ,List.getElem?_cons_zero] at q1
 refine xStore 19 ((((w4.setCell ⟨w.heap.size,2,none⟩ (.slice E1 x.dims.length d1)).setCell ⟨w.heap.size,3,none⟩ (.slice E2 x.chunks.length d2)).setCell ⟨w.heap.size,6,none⟩ (.slice E3 x.stages.length d3)).setCell ⟨w.heap.size,7,none⟩ (.slice E4 0 d4)) (by kernel_rfl) (by kernel_rfl) ?_ (fun h=>absurd (by decide) h) ?_
 ·simp only[zE,zF,zG,zH,zI];first|(go_simp;done)|(with_reducible rfl)|(go_simp;omega)
 try simp only[Act.put,zB,zC,zD]
 have K4:=zh (K3.out.set (i:=7) (.slice E4 0 d4))
 simp only[List.setIfInBounds_toArray,List.set_cons_zero,List.set_cons_succ] at K4
 have Z4:=zh (Z3.out.set_other (h:=w.heap.size) (i:=7) (.slice E4 0 d4) (by omega))
 clear q1 q2
 refine xDone (by kernel_rfl) (tNoP ?_)
 have O1:=zh (O1.out.up yaf (Below.refl _ _) (B':=0))
 generalize hw5:World.setCell _ _ (.slice E4 0 d4)=w5 at *
 have hsz:w5.heap.size=w4.heap.size:=by rw[<- hw5];simp
 have hot:∀ g,w.heap.size+2<=g->g<w4.heap.size->w5.heap[g]?=w4.heap[g]?:=fun g hg _=>by
  rw[<- hw5]
  simp only[World.setCell,Array.getElem?_modify]
  rw[if_neg (by omega),if_neg (by omega),if_neg (by omega),if_neg (by omega)]
 have hB5:Below w.heap.size w w5:=by rw[<- hw5];have hB4:=HB.out _ B0.out;(repeat (first|exact zJ _ _|assumption|refine yab ?_ _|refine zL ?_|refine yac ?_ (by assumption)|refine yaa ?_ _|refine zO ?_ (by simp<;>omega) _|refine zP ?_ (by simp<;>omega) _))
 have P1:=zh (O1.out.blocks yaf hot (B':=0))
 have P2:=zh (O2.out.blocks yak hot (B':=0))
 have P3:=zh (O3.out.blocks ya7 hot (B':=0))
 have H5:=zh hB5
 have HS:=zh hsz
 clear hw5 hsz hot hB5 O1 O2 O3 K0 K1 K2 K3 Z0 Z1 Z2 Z3 B0
 go_upto_region 2 with fail
 refine wp_region_lit ?_
 refine yek rfl 41 (.tmp 1) rfl w.heap.size #[.string x.name,.int .i64 x.typ,.slice E1 x.dims.length d1,.slice E2 x.chunks.length d2,.string x.fill,.string x.unit,.slice E3 x.stages.length d3,.slice E4 0 d4] rfl 41 _ K4.out Tryz.underlying41 rfl ?hi ?_
 case hi=>kernel_rfl
 simp only[Act.put,zB,zC,zD]
 refine ydx rfl 41 (.tmp 2) (.tmp 19) rfl (w.heap.size+1) #[.string x.name,.int .i64 x.typ,.slice E1 x.dims.length d1,.slice E2 x.chunks.length d2,.string x.fill,.string x.unit,.slice E3 x.stages.length d3,.slice E4 0 d4] rfl rfl 41 #[.string ⟨#[]⟩,.int .i64 0,.slice none 0 0,.slice none 0 0,.string ⟨#[]⟩,.string ⟨#[]⟩,.slice none 0 0,.slice none 0 0] Z4.out ?hi rfl ?h6 ?_
 case hi=>kernel_rfl
 case h6=>simp[Value.oneCell']
 simp only[Act.put]
 have kF:=Z4.out.row #[.string x.name,.int .i64 x.typ,.slice E1 x.dims.length d1,.slice E2 x.chunks.length d2,.string x.fill,.string x.unit,.slice E3 x.stages.length d3,.slice E4 0 d4]
 have hot:∀ g,w.heap.size+2<=g->g<w5.heap.size->(w5.setRow (w.heap.size+1) #[.string x.name,.int .i64 x.typ,.slice E1 x.dims.length d1,.slice E2 x.chunks.length d2,.string x.fill,.string x.unit,.slice E3 x.stages.length d3,.slice E4 0 d4]).heap[g]?=w5.heap[g]?:=fun g hg _=>setRow_other _ _ _ _ (by omega)
 have P1:=zh (P1.out.blocks yaf hot (B':=0))
 have P2:=zh (P2.out.blocks yak hot (B':=0))
 have P3:=zh (P3.out.blocks ya7 hot (B':=0))
 have H6:=zh (yby (g:=w.heap.size+1) H5.out (Nat.le_succ _) #[.string x.name,.int .i64 x.typ,.slice E1 x.dims.length d1,.slice E2 x.chunks.length d2,.string x.fill,.string x.unit,.slice E3 x.stages.length d3,.slice E4 0 d4])
 clear hot H5 K4 Z4
 generalize hwf:World.setRow _ _ _=wf at *
 clear hwf
 go_wp2
 have hL:=yaw (P:=Tryz.prog) kF Tryz.underlying41 rfl (by kernel_rfl)
 refine bodyPost_ret (yi3 rfl rfl hL) rfl ?_
 exact⟨E1,d1,E2,d2,E3,d3,E4,d4,rfl,P1.out.base (Nat.le_add_right _ _),P2.out.base (Nat.le_add_right _ _),P3.out.base (Nat.le_add_right _ _),⟨E4,0,d4,rfl,rfl,Nat.zero_le _,by decide,hE4,fun h=>absurd h (by omega)⟩,H6.out⟩
theorem yef (b o n c:Nat) (x:ByteArray) (w:World) (hn:4<=n) (hc:n<=c) (hcb:c<=1000000) (hb:b<w.heap.size) (hx:x.size<=1000000) (e0:w.cell? ⟨b,o,none⟩=some (.string ⟨#[40]⟩)) (e1:w.cell? ⟨b,o+1,none⟩=some (.string x))
  (IX:Calls Tryz.prog 68 #[.slice (some ⟨b,o,none⟩) n c,.string ⟨#[41]⟩] w fun e w'=>e=.returned (.int .i64 2)/\w=w') :
  Calls Tryz.prog 140 #[.slice (some ⟨b,o,none⟩) n c] w fun e w'=>∃ A d,e=.returned (.tuple #[.slice A 1 d,.slice (some ⟨b,o+3,none⟩) (n - 3) (c - 3),.bool true])/\OL kStr 1 9 w.heap.size w' 0 (.slice A 1 d) [x]/\Below w.heap.size w w':=by
 have CL:=fun w2 (hB:Below w.heap.size w w2)=>yc9 (.slice (some ⟨b,o+1,none⟩) 1 (c - 1)) [x] w2 ⟨_,_,_,rfl,rfl,by omega,by decide,(fun h=>by cases h),fun _=>⟨b,o+1,rfl,Nat.lt_of_lt_of_le hb hB.size,fun k y hk=>by
  match k,hk with
  | 0,hk=>
   injection hk with hk
   subst hk
   refine⟨[.string x],rfl,fun j v hj=>?_,rfl,by omega⟩
   match j,hj with
   | 0,hj=>
    injection hj with hj
    rw[<- hj]
    exact(hB.cell (p:=⟨b,o+1,none⟩) hb).trans e1⟩⟩ (by simp)
 have n3:(4:Int)<=(n:Int):=by omega
 have c3:(n:Int)<=(c:Int):=by omega
 have c4:(c:Int)<=1000000:=by omega
 have hc3:c≠3:=by omega
 have hc1:c≠1:=by omega
 have c2:(2:Int)<=(c:Int):=by omega
 have n2:(3:Int)<=(n:Int):=by omega
 have w3:IntKind.i64.wrap 3=3:=by decide
 have HB:=zh (And.intro hn (And.intro hc hb))
 clear hcb
 go_enter Tryz.func140,Tryz.ntmps140
 go_wp2_with (go_at_call 68;(with_reducible refine IX.mono ?_);rintro e w1 ⟨rfl,rfl⟩)
 refine wp_region_noPanic ?_
 refine wp_region_held_drew (S:=fun w'=>Below w.heap.size w w') (by kernel_rfl) (by (repeat (first|exact zJ _ _|assumption|refine yab ?_ _|refine zL ?_|refine yac ?_ (by assumption)|refine yaa ?_ _))) (fun hHeld=>?_)
 generalize hw0:w.drew=w0 at hHeld ⊢
 clear hw0
 refine tRun [(0,16,some (.slice (some ⟨b,o,none⟩) n c)),(1,17,some (.int .i64 2))] hHeld (by kernel_rfl) ?_
 simp only[runA,Act.put,zB,zC,zD]
 refine tVal 2 18 (.slice (some ⟨b,o+1,none⟩) 1 (c - 1)) hHeld (by kernel_rfl) (fun w' hSw=>?_) ?_
 ·simp only[zE,zF,zG,zH,zI];first|(go_simp;done)|(with_reducible rfl)|(go_simp;omega)
 simp only[Act.put,zB,zC,zD]
 refine tRun [(4,20,some (.slice (some ⟨b,o,none⟩) n c)),(5,21,some (.int .i64 2))] hHeld (by kernel_rfl) ?_
 simp only[runA,Act.put,zB,zC,zD]
 refine tVal 6 22 (.int .i64 3) hHeld (by kernel_rfl) (fun w' hSw=>?_) ?_
 ·simp only[zE,zF,zG,zH,zI];first|(go_simp;done)|(with_reducible rfl)|(go_simp;omega)
 simp only[Act.put,zB,zC,zD]
 refine tVal 7 23 (.slice (some ⟨b,o+3,none⟩) (n - 3) (c - 3)) hHeld (by kernel_rfl) (fun w' hSw=>?_) ?_
 ·simp only[zE,zF,zG,zH,zI];first|(go_simp;done)|(with_reducible rfl)|(go_simp;omega)
 simp only[Act.put,zB,zC,zD]
 refine tEnter 3 19 73 #[.slice (some ⟨b,o+1,none⟩) 1 (c - 1)] (by kernel_rfl) (by kernel_rfl) (by kernel_rfl) (CL _ hHeld) ?_
 rintro e w1 ⟨v',rfl,ho,hb⟩
 obtain⟨A,d,rfl⟩:=ho.val
 have O1:=zh (ho.base (base':=w.heap.size) hHeld.size)
 refine⟨_,rfl,yac hHeld hb,fun hHeld=>?_⟩
 simp only[Act.put,zB,zC,zD]
 clear hb ho
 refine tRun [(8,2,some (.slice A [x].length d)),(9,3,some (.slice (some ⟨b,o+3,none⟩) (n - 3) (c - 3))),(10,4,some (.bool true))] hHeld (by kernel_rfl) ?_
 simp only[runA,Act.put,zB,zC,zD]
 refine wpAnyH_done (by kernel_rfl) (tNoP ?_) _
 have O2:=zh (O1.out.up yaf (Below.refl _ _) (B':=0))
 have H:=zh hHeld
 clear hHeld O1 CL IX
 go_wp2
 go_ret3
 exact⟨A,d,rfl,O2.out,H.out⟩
theorem yh6 (v:Value) (xs:List VarD) (w:World) (B:Nat) (hBw:B<=w.heap.size) (hV:VL kVar 8 w B v xs) (hl:xs.length<=200000000000):Calls Tryz.prog 54 #[v] w fun e w'=>∃ v',e=.returned v'/\OL kVar 8 41 w.heap.size w' B v' xs/\Below w.heap.size w w':=by
 obtain⟨i0,hi,hz0,hz1,hz2⟩:=info_parts Tryz.infoVarC
 have qn:∀ (w:World) (a:Option Addr) (n c n' c':Nat),(binOp .eql 53 (.slice a n c) (.slice none n' c')).run Tryz.prog w=.ok (.bool a.isNone) w:=fun w a n c n' c'=>Lib.run_eql_slice_nil w _ _ a n c n' c' Tryz.underlying53
 obtain⟨A,n,c,rfl,h1,h2,h3,h4,h5⟩:=id hV
 clear h5
 rcases A with _|a
 ·have hn:n=0:=by have:=h4 rfl;omega
  subst hn
  have hx:xs=[]:=List.length_eq_zero_iff.1 h1
  subst hx
  clear hV h4
  go_enter Tryz.func54,Tryz.ntmps54
  go_wp2
  go_ret
  exact⟨_,rfl,OL.nil,Below.refl _ _⟩
 ·obtain⟨rows,r1,r2,r3⟩:=VL.rows hV (by decide)
  have r4:=ydi yp5 r1 r2
  have r5:=ycj (ycl r1 r2)
  have RR:=zh (And.intro r1 (And.intro r2 (And.intro r3 (And.intro r4 r5))))
  have HL:=zh (And.intro h1 hl)
  clear hV h4 r1 r2 r3 r4 r5 h1 hl
  go_enter Tryz.func54,Tryz.ntmps54
  go_wp2_with (at_builtin;refine wpList_append_own _ rfl _ _ 53 rfl w.heap.size 41 i0 (.agg #[.string ⟨#[]⟩,.int .i64 0,.slice none 0 0,.slice none 0 0,.string ⟨#[]⟩,.string ⟨#[]⟩,.slice none 0 0,.slice none 0 0]) 8 152 Tryz.underlying53 hi hz0 hz1 hz2 rfl (by decide) _ _ _ rfl (World.ownsRow_made w #[] 0 (Nat.le_refl _) (Nat.zero_le _) rfl) a n c rows.flatten rfl ?qc1 ?qc2 ?qc3 ?qc4 ?qc5 ?qc6 ?_)
  case qc1=>rw[RR.out.2.2.2.2,RR.out.1,HL.out.1]
  case qc2=>exact fun j u hj=>Lib.cell?_alloc_some _ (RR.out.2.2.1 j u hj)
  case qc3=>exact RR.out.2.2.2.1
  case qc4=>have:=HL.out;unfold maxLen;omega
  case qc5=>have:=HL.out;omega
  case qc6=>simp
  intro v' w1 hown hgrow _
  have hB:Below w.heap.size w w1:=((Below.refl _ w).alloc (Nat.le_refl _) _).grown hgrow (by simp) (by intro k hk;simp[Value.ownBlock] at hk;omega)
  have HO:=zh hown
  have HB:=zh hB
  clear hown hgrow hB
  go_wp2
  go_ret
  refine⟨v',rfl,⟨rows,RR.out.1,fun k x hk=>?_,?_⟩,HB.out⟩
  ·obtain⟨vs,e1,e2,e3⟩:=RR.out.2.1 k x hk
   exact⟨vs,e1,e2,ybd _ _ _ _ _ e3 (HB.out.mono hBw)⟩
  ·have h:=HO.out
   rw[HL.out.1]
   simpa using h
end Go.Proofs.YtajmjllhdcdkmaaGreatDoor
