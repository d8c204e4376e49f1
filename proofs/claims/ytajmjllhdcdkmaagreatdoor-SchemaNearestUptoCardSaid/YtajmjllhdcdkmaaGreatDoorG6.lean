import Derived.Test.YtajmjllhdcdkmaaGreatDoorZ
import Derived.Test.YtajmjllhdcdkmaaGreatDoorProg
import Derived.WalkKit
import Derived.Maps.AppendAt
import Derived.Laws.CopyRow
import Derived.Lib.AppendZerosOnto
import Derived.Lib.Overlaps
import Derived.Lib.Hide
import Derived.Shelf.Spec.SlicesInsert
set_option maxRecDepth 100000
set_option maxHeartbeats 8000000
namespace Go.Proofs.YtajmjllhdcdkmaaGreatDoor
open Go.RowKit
theorem ydw {a b c:Nat} (h:(a<=b/\c=a)\/(b<=a/\c=b)):Nat.min a b=c:=by
 show min a b=c
 rw[Nat.min_def];split<;>omega
theorem yco {P:Program} (K:Nat) (w:World) (dT sT ty elem:TypeId) (g o dLen dCap:Nat) (a:Addr) (sLen sCap:Nat) (cur:Array Value) (t:TypeId) (cs:List Value)
  (hu:P.underlying dT=some (.slice elem)) (hs:(P.info? elem).map (·.size)=some K)
  (hg:w.heap[g]?=some (.cells cur t (0,0))) (hn:cs.length=Nat.min sLen dLen*K)
  (hsrc:∀ j v,cs[j]?=some v->w.cell? (a.add j)=some v) (hfit:o+cs.length<=cur.size) (h1:∀ v ∈ cs,v.oneCell'=true) :
  (Builtin.copy_ #[dT,sT] ty #[.slice (some ⟨g,o,none⟩) dLen dCap,.slice (some a) sLen sCap]).run P w =
   .ok (goInt (Nat.min sLen dLen)) (w.setRow g (cur.toList.take o++cs++cur.toList.drop (o+cs.length)).toArray):=by
 have hl:=run_loadCells_list (P:=P) w a cs hsrc
 have hst:=run_storeCells_at P g o t cs 0 cur w hg (by simpa using hfit) h1
 cases hq:P.info? elem with
 | none=>simp[hq] at hs
 | some i=>
  have hi:i.size=K:=by simpa[hq] using hs
  simp[Builtin.copy_,run_underlying hu,Builtin.lenOf,Builtin.firstCells,sizeOf,typeInfo,hq,hi,<- hn,hl,hst]
theorem ypi (cur Y vs:List Value) (p m:Nat) (hm:vs.length=m) (hp:p+m+Y.length<=cur.length) :
  ((cur.take (p+m)++Y++cur.drop (p+m+Y.length)).take p++vs++(cur.take (p+m)++Y++cur.drop (p+m+Y.length)).drop (p+vs.length))=cur.take p++vs++(Y++cur.drop (p+m+Y.length)):=by
 have h1:(cur.take (p+m)).length=p+m:=by rw[List.length_take];omega
 rw[hm,List.append_assoc (cur.take (p+m)),List.take_append_of_le_length (by omega),List.take_take,List.drop_append_of_le_length (by omega),List.drop_eq_nil_of_le (by omega),List.nil_append]
 congr 3
 omega
theorem yrv {α:Type} {cur xs:List α} {k p:Nat} (h:cur.take k=xs) (hp:p<=k):cur.take p=xs.take p:=by
 rw[<- h,List.take_take,Nat.min_eq_left hp]
theorem Tryz.infoInsD:(Tryz.prog.info? 26).map (fun i=>(i.zero,i.size,i.bytes))=some (some (.agg #[.string ⟨#[]⟩,.int .i64 0,.bool false]),3,32):=by kernel_rfl
theorem ysc (v:Value) (xs:List Value) (B0 n i vb:Nat) (vs:List Value) (w:World) (h:w.ownsRow B0 26 3 v n xs) (hn:n<=1000000000) (hi:i<=n) (hv:w.heap[vb]?=some (.cells vs.toArray 26 (0,0))) (hvl:vs.length=3) (hvb:v.ownBlock≠some vb) (h1:∀ u ∈ xs,u.oneCell'=true) (h1v:∀ u ∈ vs,u.oneCell'=true) (hB:B0<=w.heap.size) :
  Calls Tryz.prog 110 #[v,.int .i64 i,.slice (some ⟨vb,0,none⟩) 1 1] w fun e w'=>∃ v',e=.returned v'/\w'.ownsRow B0 26 3 v' (n+1) (xs.take (i*3)++vs++xs.drop (i*3))/\w.grownBy w' v.ownBlock/\(v'.ownBlock=v.ownBlock\/v'.ownBlock=some w.heap.size):=by
 obtain⟨i0,hi0,hz0,hzs,hzb⟩:=info_parts Tryz.infoInsD
 have hsz:(Tryz.prog.info? 26).map (·.size)=some 3:=by rw[hi0];simp[hzs]
 have hvc:∀ j u,vs[j]?=some u->w.cell? ((⟨vb,0,none⟩:Addr).add j)=some u:=fun j u hj=>by
  have ha:(⟨vb,0,none⟩:Addr).add j=⟨vb,j,none⟩:=by unfold Addr.add;split<;>simp_all
  rw[ha]
  simp[World.cell?,hv,hj]
 have hvs:vs.length=1*3:=by omega
 have nb:(n:Int)<=1000000000:=by omega
 rcases Nat.lt_or_ge i n with hlt|hge
 ·rcases h.2 with ⟨_,h0⟩|⟨g,cap,cur,rfl,hBg,hg,hc,hcm,hcs,htk⟩
  ·omega
  have hcm:cap<=9223372036854775807:=by unfold maxLen at hcm;omega
  have hgb:vb≠g:=fun e=>hvb (by rw[e];rfl)
  have hc':(n:Int)<=(cap:Int):=by omega
  have hcm':(cap:Int)<=9223372036854775807:=by omega
  have hin:(i:Int)<(n:Int):=by omega
  have hne:¬(i:Int)=(n:Int):=by omega
  have hxl:=h.1
  obtain⟨Y,hY⟩:∃ Y,xs.drop (i*3)=Y:=⟨_,rfl⟩
  have hYl:Y.length=(n - i)*3:=by rw[<- hY,List.length_drop,hxl,Nat.sub_mul]
  have hw1:IntKind.i64.wrap ((n:Int)+1)=(n:Int)+1:=IntWalk.i64_in _ (by omega)
  have hw2:IntKind.i64.wrap ((i:Int)+1)=(i:Int)+1:=IntWalk.i64_in _ (by omega)
  have hw3:IntKind.i64.wrap ((n:Int)+1 - (i:Int))=(n:Int)+1 - (i:Int):=IntWalk.i64_in _ (by omega)
  rcases Nat.lt_or_ge n cap with hroom|hroom
  ·have hr':(n:Int)+1<=(cap:Int):=by omega
   have hov:∀ lb cb,(callFunc 152 #[.slice (some ⟨vb,0,none⟩) 1 1,.slice (some ⟨g,(i+1)*3,none⟩) lb cb]).run Tryz.prog w=.ok (.value (.bool false)) w:=fun lb cb=>by
    rw[run_callFunc_extern Tryz.func152 (by kernel_rfl) (by kernel_rfl) (by kernel_rfl) (e:=Extern.SlicesOverlaps.overlaps #[52,52] #[4]) (by kernel_rfl),
     Lib.run_overlaps_apart w 52 4 26 Tryz.underlying52 3 (fun w=>by simp[sizeOf,typeInfo,hi0,hzs]) ⟨vb,0,none⟩ ⟨g,(i+1)*3,none⟩ 1 1 lb cb hgb 26 26 3 cur.size (by simp[World.shape?,hv,hvl]) (by simp[World.shape?,hg]) (by rw[hcs];omega) (by simp[World.frozen?,hv]) (by simp[World.frozen?,hv])]
    rfl
   obtain⟨C1,hC1⟩:∃ C1:List Value,C1=cur.toList.take (i*3+3)++Y++cur.toList.drop (i*3+3+Y.length):=⟨_,rfl⟩
   have hcl:cur.toList.length=cap*3:=by rw[Array.length_toList];exact hcs
   have hYc:∀ j u,Y[j]?=some u->w.cell? ((⟨g,i*3,none⟩:Addr).add j)=some u:=fun j u hj=>by
    have ha:(⟨g,i*3,none⟩:Addr).add j=⟨g,i*3+j,none⟩:=by unfold Addr.add;split<;>simp_all
    have hlt:=(List.getElem?_eq_some_iff.1 hj).1
    rw[ha]
    rw[<- hY,List.getElem?_drop,<- htk,List.getElem?_take] at hj
    split at hj
    ·simp[World.cell?,hg];simpa using hj
    ·cases hj
   have hcp1:∀ ty dc sc,(Builtin.copy_ #[52,52] ty #[.slice (some ⟨g,(i+1)*3,none⟩) (n - i) dc,.slice (some ⟨g,i*3,none⟩) (n+1 - i) sc]).run Tryz.prog w.drew=(.ok (goInt ((n - i:Nat):Int)) (w.drew.setRow g C1.toArray):Result Value):=fun ty dc sc=>by
    have h:=yco (P:=Tryz.prog) 3 w.drew 52 52 ty 26 g ((i+1)*3) (n - i) dc ⟨g,i*3,none⟩ (n+1 - i) sc cur 26 Y Tryz.underlying52 hsz hg (by rw[hYl,show Nat.min (n+1 - i) (n - i)=n - i from ydw (by omega)]) hYc (by rw[hYl,hcs];omega) (fun u hu=>h1 u (by rw[<- hY] at hu;exact List.mem_of_mem_drop hu))
    rw[show Nat.min (n+1 - i) (n - i)=n - i from ydw (by omega)] at h
    have e:(i+1)*3=i*3+3:=by omega
    rw[hC1,<- e]
    exact h
   obtain⟨W1,hW1⟩:∃ W1,W1=w.drew.setRow g C1.toArray:=⟨_,rfl⟩
   have hg1:W1.heap[g]?=some (.cells C1.toArray 26 (0,0)):=by rw[hW1];exact setRow_heap w.drew g _ _ _ _ hg
   have hC1l:C1.length=cap*3:=by
    rw[hC1,List.length_append,List.length_append,List.length_take,List.length_drop,hcl,hYl];omega
   obtain⟨C2,hC2⟩:∃ C2:List Value,C2=C1.take (i*3)++vs++C1.drop (i*3+vs.length):=⟨_,rfl⟩
   have hcp2:∀ ty dc,(Builtin.copy_ #[52,52] ty #[.slice (some ⟨g,i*3,none⟩) (n+1 - i) dc,.slice (some ⟨vb,0,none⟩) 1 1]).run Tryz.prog W1=.ok (goInt 1) (W1.setRow g C2.toArray):=fun ty dc=>by
    have h:=yco (P:=Tryz.prog) 3 W1 52 52 ty 26 g (i*3) (n+1 - i) dc ⟨vb,0,none⟩ 1 1 C1.toArray 26 vs Tryz.underlying52 hsz hg1 (by rw[hvl,show Nat.min 1 (n+1 - i)=1 from ydw (by omega)]) (fun j u hj=>by
     have ha:(⟨vb,0,none⟩:Addr).add j=⟨vb,j,none⟩:=by unfold Addr.add;split<;>simp_all
     have:=hvc j u hj
     rw[ha] at this ⊢
     rw[hW1,World.cell?_of_block (w:=w.drew) (setRow_other w.drew g vb _ hgb)]
     exact this) (by simp;rw[hvl,hC1l];omega) h1v
    rw[show Nat.min 1 (n+1 - i)=1 from ydw (by omega)] at h
    rw[hC2]
    exact h
   have hfin:C2=cur.toList.take (i*3)++vs++(Y++cur.toList.drop (i*3+3+Y.length)):=by
    rw[hC2,hC1]
    exact ypi cur.toList Y vs (i*3) 3 hvl (by rw[hcl,hYl];omega)
   have hend:(W1.setRow g C2.toArray).ownsRow B0 26 3 (.slice (some ⟨g,0,none⟩) (n+1) cap) (n+1) (xs.take (i*3)++vs++xs.drop (i*3))/\w.grownBy (W1.setRow g C2.toArray) (some g):=by
    rw[hY]
    have hC2l:C2.length=cap*3:=by rw[hfin];simp only[List.length_append,List.length_take,List.length_drop];rw[hcl,hvl,hYl];omega
    refine⟨⟨?_,.inr ⟨g,cap,C2.toArray,rfl,hBg,setRow_heap W1 g _ _ _ _ hg1,hroom,by unfold maxLen;omega,by simpa using hC2l,?_⟩⟩,⟨by rw[hW1];rfl,by rw[hW1];rfl,by rw[hW1];rfl,by rw[hW1];simp[World.setRow],fun k hk hne=>?_⟩⟩
    ·simp only[List.length_append,List.length_take];rw[hxl,hvl,hYl];omega
    ·rw[hfin,yrv htk (by omega),<- List.append_assoc]
     exact List.take_left' (by simp only[List.length_append,List.length_take];rw[hxl,hvl,hYl];omega)
    ·have hkg:k≠g:=fun e=>hne (by rw[e])
     rw[setRow_other W1 g k _ hkg,hW1,setRow_other w.drew g k _ hkg]
     rfl
   have HE:=zh hend
   rw[<- hW1] at hcp1
   clear hC1 hcl hYc hg1 hC1l hC2 hfin hend hW1 h htk hY hYl hxl hcs h1 hvc h1v
   have mixed:Tryz.prog.follows .mixedOrders=true:=by kernel_rfl
   have hb1:(0:Int)<=(i:Int)+1:=by omega
   have hb0:i<=n:=hi
   have htn:((i:Int)+1).toNat=i+1:=by omega
   have hb2:¬(cap=i+1):=by omega
   have hb3:(i:Int)<=(n:Int)+1:=by omega
   have hb4:¬(cap=i):=by omega
   go_enter Tryz.func110,Tryz.ntmps110
   go_wp2
   go_region_law_o (refine step_copy_runI rfl _ _ 52 52 rfl _ _ (by simp[Act.eval,Act.put]) (by simp[Act.eval,Act.put]) (hcp1 _ _ _) ?_)
   go_wp2_with (at_builtin;refine wpList_copy_runI _ rfl _ _ 52 52 rfl _ _ rfl rfl (hcp2 _ _) ?_)
   go_ret
   exact⟨_,rfl,HE.out.1,HE.out.2,.inl rfl⟩
  ·obtain rfl:cap=n:=by omega
   have hr':¬(cap:Int)+1<=(cap:Int):=by omega
   have hkk:(cap:Int)+1 - (i:Int)=((cap+1 - i:Nat):Int):=by omega
   have hik:i+(cap+1 - i)=cap+1:=by omega
   have hcl:cur.toList.length=cap*3:=by rw[Array.length_toList];exact hcs
   have hgw:g<w.heap.size:=(Array.getElem?_eq_some_iff.1 hg).1
   have hvw:vb<w.heap.size:=(Array.getElem?_eq_some_iff.1 hv).1
   have hcell:∀ j u,xs[j]?=some u->w.cell? ⟨g,j,none⟩=some u:=fun j u hj=>by
    rw[<- htk,List.getElem?_take] at hj
    split at hj
    ·simp[World.cell?,hg];simpa using hj
    ·cases hj
   have hadd:∀ b j,(⟨b,0,none⟩:Addr).add j=⟨b,j,none⟩:=fun b j=>by unfold Addr.add;split<;>simp_all
   have hold:(Builtin.firstCells i0.size i (.slice (some ⟨g,0,none⟩) i cap)).run Tryz.prog w.drew=.ok (xs.take (i*3)).toArray w.drew:=by
    rw[hzs]
    exact run_firstCells_some w.drew 3 i ⟨g,0,none⟩ i cap _ (by rw[List.length_take,hxl];omega) (fun j u hj=>by
     rw[hadd]
     rw[List.getElem?_take] at hj
     split at hj
     ·exact hcell j u hj
     ·cases hj)
   obtain⟨G,hG⟩:∃ G,G=grownCap w (cap+1) cap 26:=⟨_,rfl⟩
   obtain⟨ROW,hROW⟩:∃ ROW:Array Value,ROW=(xs.take (i*3)).toArray++Builtin.zeroCells (Value.agg #[.string ⟨#[]⟩,.int .i64 0,.bool false]).cells (cap+1 - i)++Builtin.zeroCells (Value.agg #[.string ⟨#[]⟩,.int .i64 0,.bool false]).cells (G - (cap+1)):=⟨_,rfl⟩
   have hrz:∀ ty,(Builtin.append_ #[52,3] ty #[.slice (some ⟨g,0,none⟩) i cap,.int .i64 ((cap:Int)+1 - (i:Int))]).run Tryz.prog w=.ok (.slice (some ⟨w.heap.size,0,none⟩) (cap+1) G) (w.drew.alloc (.cells ROW 26)):=fun ty=>by
    have h:=Lib.run_append_grow_zeros w 52 3 ty 26 i0 _ .i64 .i64 Tryz.underlying52 Tryz.underlying3 hi0 hz0 (some ⟨g,0,none⟩) i cap _ hold (cap+1 - i) (by omega) (by omega) (by omega) (by omega) (by rw[hzb];omega) (by rw[hzb,hik];exact growslice_fits (by omega) (by omega))
    rw[hik] at h
    rw[hkk,hROW,hG]
    exact h
   have hGn:cap+1<=G:=by rw[hG];exact grownCap_ge w _ _ _
   have hGm:G<=maxLen:=by rw[hG];exact grownCap_le_maxLen w (cap+1) cap _ (by unfold maxLen;omega)
   have hG63:(G:Int)<=9223372036854775807:=by unfold maxLen at hGm;omega
   have hRl:ROW.size=G*3:=by
    rw[hROW]
    simp[Builtin.zeroCells,Value.cells,hxl]
    omega
   obtain⟨N,hN⟩:∃ N,N=w.heap.size:=⟨_,rfl⟩
   rw[<- hN] at hrz
   have hgN:g≠N:=by omega
   have hvN:vb≠N:=by omega
   obtain⟨W1,hW1⟩:∃ W1,W1=w.drew.alloc (.cells ROW 26):=⟨_,rfl⟩
   rw[<- hW1] at hrz
   have hg1:W1.heap[N]?=some (.cells ROW 26 (0,0)):=by rw[hW1,hN];exact heap_alloc_new w.drew _
   have hold1:∀ b,b<N->W1.heap[b]?=w.heap[b]?:=fun b hb=>by rw[hW1];exact heap_alloc_old w.drew _ (by rw[hN] at hb;exact hb)
   obtain⟨C1,hC1⟩:∃ C1:List Value,C1=ROW.toList.take (i*3)++vs++ROW.toList.drop (i*3+vs.length):=⟨_,rfl⟩
   have hC1l:C1.length=G*3:=by
    rw[hC1,List.length_append,List.length_append,List.length_take,List.length_drop,Array.length_toList,hRl];omega
   have hcp1:∀ (W:World),W.heap=W1.heap->∀ ty dc,(Builtin.copy_ #[52,52] ty #[.slice (some ⟨N,i*3,none⟩) (cap+1 - i) dc,.slice (some ⟨vb,0,none⟩) 1 1]).run Tryz.prog W=(.ok (goInt 1) (W.setRow N C1.toArray):Result Value):=fun W hW ty dc=>by
    have h:=yco (P:=Tryz.prog) 3 W 52 52 ty 26 N (i*3) (cap+1 - i) dc ⟨vb,0,none⟩ 1 1 ROW 26 vs Tryz.underlying52 hsz (by rw[hW];exact hg1) (by rw[hvl,show Nat.min 1 (cap+1 - i)=1 from ydw (by omega)]) (fun j u hj=>by
     have:=hvc j u hj
     rw[hadd] at this ⊢
     rw[World.cell?_of_block (w:=w) (by rw[hW];exact hold1 vb (by omega))]
     exact this) (by rw[hvl,hRl];omega) h1v
    rw[show Nat.min 1 (cap+1 - i)=1 from ydw (by omega)] at h
    rw[hC1]
    exact h
   obtain⟨C2,hC2⟩:∃ C2:List Value,C2=C1.take (i*3+3)++Y++C1.drop (i*3+3+Y.length):=⟨_,rfl⟩
   have hcp2:∀ (W:World),W.heap=(W1.setRow N C1.toArray).heap->∀ ty dc sc,(Builtin.copy_ #[52,52] ty #[.slice (some ⟨N,(i+1)*3,none⟩) (cap - i) dc,.slice (some ⟨g,i*3,none⟩) (cap - i) sc]).run Tryz.prog W=(.ok (goInt ((cap - i:Nat):Int)) (W.setRow N C2.toArray):Result Value):=fun W hW ty dc sc=>by
    have h:=yco (P:=Tryz.prog) 3 W 52 52 ty 26 N ((i+1)*3) (cap - i) dc ⟨g,i*3,none⟩ (cap - i) sc C1.toArray 26 Y Tryz.underlying52 hsz (by rw[hW];exact setRow_heap W1 N _ _ _ _ hg1) (by rw[hYl,show Nat.min (cap - i) (cap - i)=cap - i from ydw (by omega)]) (fun j u hj=>by
     have ha:(⟨g,i*3,none⟩:Addr).add j=⟨g,i*3+j,none⟩:=by unfold Addr.add;split<;>simp_all
     rw[ha,World.cell?_of_block (w:=w) (by rw[hW,setRow_other W1 N g _ hgN];exact hold1 g (by omega))]
     exact hcell _ u (by rw[<- hY,List.getElem?_drop] at hj;exact hj)) (by simp;rw[hYl,hC1l];omega) (fun u hu=>h1 u (by rw[<- hY] at hu;exact List.mem_of_mem_drop hu))
    rw[show Nat.min (cap - i) (cap - i)=cap - i from ydw (by omega)] at h
    have e:(i+1)*3=i*3+3:=by omega
    rw[hC2,<- e]
    exact h
   have hfin:C2.take ((cap+1)*3)=xs.take (i*3)++vs++Y:=by
    have hR1:ROW.toList.take (i*3)=xs.take (i*3):=by
     rw[hROW]
     simp only[Array.toList_append,List.append_assoc]
     exact List.take_left' (by rw[List.length_take,hxl];omega)
    have hC3:C1.take (i*3+3)=xs.take (i*3)++vs:=by
     rw[hC1,hR1]
     exact List.take_left' (by rw[List.length_append,List.length_take,hxl,hvl];omega)
    rw[hC2,hC3]
    exact List.take_left' (by simp only[List.length_append,List.length_take];rw[hxl,hvl,hYl];omega)
   have hend:∀ (W:World),W.heap=(W1.setRow N C1.toArray).heap->W.os=w.os->W.tape=w.tape->W.output=w.output->(W.setRow N C2.toArray).ownsRow B0 26 3 (.slice (some ⟨N,0,none⟩) (cap+1) G) (cap+1) (xs.take (i*3)++vs++xs.drop (i*3))/\w.grownBy (W.setRow N C2.toArray) (some g):=fun W hW ho ht hu=>by
    rw[hY]
    have hC2l:C2.length=G*3:=by rw[hC2];simp only[List.length_append,List.length_take,List.length_drop];rw[hC1l,hYl];omega
    have hWN:W.heap[N]?=some (.cells C1.toArray 26 (0,0)):=by rw[hW];exact setRow_heap W1 N _ _ _ _ hg1
    refine⟨⟨?_,.inr ⟨N,G,C2.toArray,rfl,by omega,setRow_heap W N _ _ _ _ hWN,hGn,hGm,by simpa using hC2l,hfin⟩⟩,⟨ho,ht,hu,?_,fun k hk hne=>?_⟩⟩
    ·simp only[List.length_append,List.length_take];rw[hxl,hvl,hYl];omega
    ·have:(W.setRow N C2.toArray).heap.size=W1.heap.size:=by simp[World.setRow,hW]
     rw[this,hW1];simp
    ·rw[setRow_other W N k _ (by omega),hW,setRow_other W1 N k _ (by omega)]
     exact hold1 k (by omega)
   have HE:=zh hend
   have HW:=zh hW1
   have mixed:Tryz.prog.follows .mixedOrders=true:=by kernel_rfl
   have hb1:(0:Int)<=(i:Int)+1:=by omega
   have hb0:i<=cap:=hi
   have htn:((i:Int)+1).toNat=i+1:=by omega
   have hb2:¬(G=i+1):=by omega
   have hb3:(i:Int)<=(cap:Int)+1:=by omega
   have hb4:¬(G=i):=by omega
   have hb5:¬(cap=i):=by omega
   have HN:=zh hN
   clear hC1 hcl hg1 hC1l hC2 hfin hend hW1 h htk hY hYl hxl hcs h1 hvc h1v hold1 hcell hold hG hROW hRl hadd hGm hN hkk hik
   go_enter Tryz.func110,Tryz.ntmps110
   go_wp2_with (first
    | (at_builtin;refine Lib.wpList_append_run _ rfl _ _ _ _ rfl _ _ rfl rfl _ _ (hrz _) ?_)
    | (at_builtin;refine wpList_copy_runI _ rfl _ _ 52 52 rfl _ _ rfl rfl (hcp1 _ rfl _ _) ?_))
   go_region_law_o (refine step_copy_runI rfl _ _ 52 52 rfl (.slice (some ⟨N,(i+1)*3,none⟩) (cap - i) (G - (i+1))) (.slice (some ⟨g,i*3,none⟩) (cap - i) (cap - i)) (by simp[Act.eval,Act.put]) (by simp[Act.eval,Act.put]) (hcp2 (World.drew (World.setRow W1 N C1.toArray)) rfl 3 (G - (i+1)) (cap - i)) ?_)
   go_wp2
   go_ret
   obtain⟨r1,r2⟩:=HE.out (World.drew (World.setRow W1 N C1.toArray)) rfl (by rw[HW.out];rfl) (by rw[HW.out];rfl) (by rw[HW.out];rfl)
   exact⟨_,rfl,r1,r2,.inr (by rw[<- HN.out];rfl)⟩
 ·obtain rfl:i=n:=by omega
  have hxt:xs.take (i*3)=xs:=List.take_of_length_le (by rw[h.1];omega)
  have hxd:xs.drop (i*3)=[]:=List.drop_eq_nil_of_le (by rw[h.1];omega)
  rw[hxt,hxd,List.append_nil]
  have hfm:(∃ g cap,v=.slice (some ⟨g,0,none⟩) i cap/\i<=cap/\cap<=9223372036854775807)\/(v=.slice none 0 0/\i=0):=by
   rcases h.2 with h|⟨g,cap,cur,hv,_,_,hc,hcm,_⟩
   ·exact .inr h
   ·exact .inl ⟨g,cap,hv,hc,by unfold maxLen at hcm;omega⟩
  have H:=zh h
  clear h hv hvb h1 hxt hxd
  rcases hfm with ⟨g,cap,rfl,hc,hcm⟩|⟨rfl,rfl⟩
  ·have hc':(i:Int)<=(cap:Int):=by omega
   have hcm':(cap:Int)<=9223372036854775807:=by omega
   go_enter Tryz.func110,Tryz.ntmps110
   go_wp2_with (at_builtin;refine wpList_append_own_at _ rfl _ _ _ rfl B0 26 i0 _ 3 32 Tryz.underlying52 hi0 hz0 hzs hzb rfl (by decide) _ _ _ rfl H.out _ 1 1 vs rfl hvs hvc h1v (by unfold maxLen;omega) (by omega) hB ?_;intro v' w' a2 g2 m2 l2;have A2:=zh a2;have G2:=zh g2;have L2:=zh l2;clear a2 g2 m2 l2)
   all_goals (go_ret;exact⟨v',rfl,A2.out,G2.out,L2.out⟩)
  ·go_enter Tryz.func110,Tryz.ntmps110
   go_wp2_with (at_builtin;refine wpList_append_own_at _ rfl _ _ _ rfl B0 26 i0 _ 3 32 Tryz.underlying52 hi0 hz0 hzs hzb rfl (by decide) _ _ _ rfl H.out _ 1 1 vs rfl hvs hvc h1v (by unfold maxLen;omega) (by omega) hB ?_;intro v' w' a2 g2 m2 l2;have A2:=zh a2;have G2:=zh g2;have L2:=zh l2;clear a2 g2 m2 l2)
   all_goals (go_ret;exact⟨v',rfl,A2.out,G2.out,L2.out⟩)
end Go.Proofs.YtajmjllhdcdkmaaGreatDoor
