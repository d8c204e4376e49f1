import Derived.Test.YtajmjllhdcdkmaaGreatDoorZ
import Derived.Test.YtajmjllhdcdkmaaGreatDoorG22
import Derived.Test.YtajmjllhdcdkmaaGreatDoorG6
import Derived.Test.YtajmjllhdcdkmaaGreatDoorG26
import Derived.Test.YtajmjllhdcdkmaaGreatDoorG27
import Derived.Test.YtajmjllhdcdkmaaGreatDoorG11
import Derived.Test.YtajmjllhdcdkmaaGreatDoorG12
import Derived.Test.YtajmjllhdcdkmaaGreatDoorG17
import Derived.Test.YtajmjllhdcdkmaaGreatDoorG9
import Derived.Deep.DeepCutAuto
set_option maxRecDepth 100000
set_option maxHeartbeats 12800000
namespace Go.Proofs.YtajmjllhdcdkmaaGreatDoor
open Go.RowKit Dg Q Num Str
def useB (s:List GroupD) (g:Nat) (n:List UInt8) (h:GroupD) (v:VarD):Bool:=((resolveB s n (h.path.size+1) (bl h.path)).map (·.1)==some g)&&decide (n ∈ v.dims.map bl)
def usersOf (s:List GroupD) (g:Nat) (n:List UInt8) (h:GroupD):List (ByteArray×ByteArray):=(h.vars.filter (useB s g n h)).map fun v=>(h.path,v.name)
def usersB (s:List GroupD) (g:Nat) (n:List UInt8):List (ByteArray×ByteArray):=s.flatMap (usersOf s g n)
def chunkRow (p:ByteArray×ByteArray):List Value:=[.string p.1,.string p.2,.slice none 0 0]
theorem yjf {w0 w w':World} {n e m:Nat} {v:Value} {xs:List Value} (h:w.ownsRow w0.heap.size e m v n xs) (hb:Below w0.heap.size w0 w) (hg:w.grownBy w' v.ownBlock):Below w0.heap.size w0 w':=by
 refine hb.trans ⟨hg.os,hg.tape,hg.output,hg.size,fun i hi=>hg.block i (Nat.lt_of_lt_of_le hi hb.size) fun e=>?_⟩
 have:=(yeq h e.symm).1
 omega
def RowC (w wr:World) (v:Value) (l:List (ByteArray×ByteArray)):Prop:=wr.ownsRow w.heap.size 112 3 v l.length (l.map chunkRow).flatten/\Below w.heap.size w wr
theorem yp6 (p:ByteArray×ByteArray):∀ u ∈ chunkRow p,u.oneCell'=true:=by
 intro u hu
 simp[chunkRow] at hu
 rcases hu with rfl|rfl|rfl<;>rfl
theorem RowC.up {w w1 w2:World} {v:Value} {l:List (ByteArray×ByteArray)} (h:RowC w w1 v l) (hb:Below w1.heap.size w1 w2):RowC w w2 v l:=⟨yal h.1 hb,yac h.2 hb⟩
theorem Tryz.infoChunk:(Tryz.prog.info? 112).map (fun i=>(i.zero,i.size,i.bytes))=some (some (.agg #[.string ⟨#[]⟩,.string ⟨#[]⟩,.slice none 0 0]),3,56):=by kernel_rfl
theorem yj9 {α β:Type} {f:α->List β} {l:List α} {k:Nat} {x:α} (hk:l[k]?=some x):(l.take (k+1)).flatMap f=(l.take k).flatMap f++f x:=by
 rw[List.take_add_one,hk,List.flatMap_append]
 simp
theorem ygb {α β:Type} {f:α->List β} {M:Nat}:∀ l:List α,(∀ x ∈ l,(f x).length<=M)->(l.flatMap f).length<=l.length*M
 | [],_=>Nat.zero_le _
 | a::l,h=>by
  have h1:=h a List.mem_cons_self
  have h2:=ygb l fun x hx=>h x (List.mem_cons_of_mem _ hx)
  rw[List.flatMap_cons,List.length_append,List.length_cons,Nat.add_mul]
  omega
theorem yg9 {α β:Type} {p:α->Bool} {f:α->β} {l:List α} {k:Nat} {x:α} (hk:l[k]?=some x):((l.take (k+1)).filter p).map f=((l.take k).filter p).map f++(if p x=true then [f x] else []):=by
 rw[List.take_add_one,hk,List.filter_append,List.map_append]
 congr 1
 cases h:p x<;>simp[h]
theorem yp2 (sv:Value) (xs:List GroupD) (g:Nat) (N:ByteArray) (w:World) (hV0:VSchema w w.heap.size sv xs) (hs:∀ x ∈ xs,x.path.size<=4000000000) (hz:xs.length<=1500000) (hz2:∀ x ∈ xs,x.vars.length<=1500000) (hw:Ws w) :
  Calls Tryz.prog 33 #[.agg #[sv],.int .i64 (g:Int),.string N] w fun e w'=>∃ v,e=.returned v/\RowC w w' v (usersB xs g (bl N)):=by
 obtain⟨i0,hi0,hi1,hi2,hi3⟩:=info_parts Tryz.infoChunk
 obtain⟨A,c,rfl,hAc,hA63⟩:=hV0.val
 obtain⟨n,hn⟩:∃ n,xs.length=n:=⟨_,rfl⟩
 have hV:VSchema w w.heap.size (.slice A n c) xs:=by rw[<- hn];exact hV0
 have nb:(n:Int)<=1500000:=by omega
 have hneg:((-1:Int)==(g:Int))=false:=by rw[beq_eq_false_iff_ne];omega
 obtain⟨R,hR⟩:∃ R,usersB xs g (bl N)=R:=⟨_,rfl⟩
 rw[hR,hn]
 have HR:=zh hR
 have HV:=zh hV
 have HW:=zh hw
 have HS:=zh (And.intro hs (And.intro hz2 (And.intro hn hz)))
 clear hV hV0 hR hw hs hz2 hAc hA63
 go_enter Tryz.func33,Tryz.ntmps33
 have hx1:=yaa (Below.refl w.heap.size w) (.cells #[.slice A n c] 24)
 have hx0:=Bk.new w #[.slice A n c] 24
 go_wp2
 generalize hwx:w.alloc (.cells #[.slice A n c] 24)=wx at *
 clear hwx
 have hx2:=hx0.lt
 obtain⟨vn,hvn⟩:∃ vn:Value,.slice none 0 0=vn:=⟨_,rfl⟩
 have HO:=zh (show RowC w wx vn ([]:List (ByteArray×ByteArray)) from⟨by rw[<- hvn];exact World.ownsRow_nil _ _ _ _,hx1⟩)
 have HK:=zh hx0
 clear hx0 hx1 hx2
 rw[hvn]
 clear hvn
 go_loopw [7,17] (fun v i wr=>∃ m:Nat,m<=n/\i=.int .i64 (m:Int)/\Hid (RowC w wr v ((xs.take m).flatMap (usersOf xs g (bl N))))/\Hid (Bk wr w.heap.size #[.slice A n c] 24)) (fun _ i _=>(n - intOf i).toNat)
 case atStart=>exact⟨0,Nat.zero_le _,rfl,HO,HK⟩
 case round=>
  clear HO HK
  obtain⟨m,hm,rfl,hO,hB⟩:=hrel
  by_cases hmk:m=n
  ·have hX:(xs.take m).flatMap (usersOf xs g (bl N))=R:=by
    rw[<- HR.out,List.take_of_length_le (by have:=HS.out.2.2.1;omega)]
    rfl
   rw[hX] at hO
   subst hmk
   clear HV HW HS HR hB hX
   go_wp2
   go_ret
   exact⟨_,rfl,hO.out⟩
  ·have hlt:m<n:=by omega
   have hi:(m:Int)<(n:Int):=by omega
   obtain⟨x,hx⟩:∃ x,xs[m]?=some x:=⟨_,List.getElem?_eq_getElem (by have:=HS.out.2.2.1;omega)⟩
   have hxm:=List.mem_of_getElem? hx
   obtain⟨b0,off,cs,rfl,hb0,_,hr,hp⟩:=HV.out.get hx
   obtain⟨v1,v2,v3,rfl,hpo,l1,l2,l3⟩:=hp
   obtain⟨B1,u1,rfl,_,_⟩:=l1.val
   obtain⟨B2,u2,rfl,hu1,hu2⟩:=l2.val
   obtain⟨B3,u3,rfl,_,_⟩:=l3.val
   have hBw:=hO.out.2
   have e0:wr.cell? ⟨b0,off+m*4,none⟩=some (.string x.path):=(hBw.cell (p:=⟨b0,off+m*4,none⟩) hb0).trans (hr 0 _ rfl)
   have e1:wr.cell? ⟨b0,off+m*4+1,none⟩=some (.slice B1 x.dims.length u1):=(hBw.cell (p:=⟨b0,off+m*4+1,none⟩) hb0).trans (hr 1 _ rfl)
   have e2:wr.cell? ⟨b0,off+m*4+2,none⟩=some (.slice B2 x.vars.length u2):=(hBw.cell (p:=⟨b0,off+m*4+2,none⟩) hb0).trans (hr 2 _ rfl)
   have e3:wr.cell? ⟨b0,off+m*4+3,none⟩=some (.slice B3 x.attrs.length u3):=(hBw.cell (p:=⟨b0,off+m*4+3,none⟩) hb0).trans (hr 3 _ rfl)
   have k0:wr.cell? ⟨w.heap.size,0,none⟩=some (.slice (some ⟨b0,off,none⟩) n c):=hB.out.cell 0
   have hvl:=HS.out.2.1 x hxm
   have pb:(x.vars.length:Int)<=1500000:=by omega
   have HL2:=zh l2
   have HXP:=zh (HS.out.1 x hxm)
   have HGo:=zh (show ∀ l,l=(xs.take m).flatMap (usersOf xs g (bl N))++usersOf xs g (bl N) x->l=(xs.take (m+1)).flatMap (usersOf xs g (bl N)) from fun l h=>by rw[h,yj9 hx])
   obtain⟨l0,hl0⟩:∃ l0,(xs.take m).flatMap (usersOf xs g (bl N))=l0:=⟨_,rfl⟩
   rw[hl0] at hO HGo
   have hl0z:l0.length<=1500000*1500000:=by
    rw[<- hl0]
    refine Nat.le_trans (ygb (M:=1500000) _ fun y hy=>?_) ?_
    ·unfold usersOf
     rw[List.length_map]
     exact Nat.le_trans (List.length_filter_le _ _) (HS.out.2.1 y (List.mem_of_mem_take hy))
    ·exact Nat.mul_le_mul_right _ (by rw[List.length_take];omega)
   clear hr hx hl0 l1 l2 l3 hu1 hu2 hBw hxm
   go_wp2
   have hy1:=yaa (Below.refl wr.heap.size wr) (.cells #[.string x.path,.slice B1 x.dims.length u1,.slice B2 x.vars.length u2,.slice B3 x.attrs.length u3] 55)
   have hy0:=Bk.new wr #[.string x.path,.slice B1 x.dims.length u1,.slice B2 x.vars.length u2,.slice B3 x.attrs.length u3] 55
   generalize hwy:wr.alloc (.cells #[.string x.path,.slice B1 x.dims.length u1,.slice B2 x.vars.length u2,.slice B3 x.attrs.length u3] 55)=wy at *
   clear hwy e0 e1 e2 e3 k0
   have HOy:=zh (hO.out.up hy1)
   have HBy:=zh (hB.out.up hy1)
   clear hB hO hy1
   generalize wr.heap.size=g8 at *
   have HY3:=zh (And.intro HBy.out hy0)
   clear hy0 HBy
   go_loopw [7,24] (fun v i wr=>∃ j:Nat,j<=x.vars.length/\i=.int .i64 (j:Int)/\Hid (RowC w wr v (l0++((x.vars.take j).filter (useB xs g (bl N) x)).map fun v=>(x.path,v.name)))/\Hid (Bk wr w.heap.size #[.slice (some ⟨b0,off,none⟩) n c] 24/\Bk wr g8 #[.string x.path,.slice B1 x.dims.length u1,.slice B2 x.vars.length u2,.slice B3 x.attrs.length u3] 55)) (fun _ i _=>(x.vars.length - intOf i).toNat)
   case atStart=>exact⟨0,Nat.zero_le _,rfl,zh (by simpa using HOy.out),HY3⟩
   case round=>
    obtain⟨j,hj,rfl,hC,hD⟩:=hrel
    by_cases hjp:j=x.vars.length
    ·have hF:=HGo.out (l0++((x.vars.take j).filter (useB xs g (bl N) x)).map fun v=>(x.path,v.name)) (by rw[hjp,List.take_of_length_le (Nat.le_refl _)];rfl)
     rw[hF] at hC
     have b1:=zh hD.out.1
     rw[hjp]
     clear HGo HL2 hD HV HW HS HR hjp hj HY3 hF HOy
     go_wp2
     go_roundw
     case rel=>exact⟨m+1,by omega,by go_num,hC,b1⟩
     case measure=>simp only[intOf];omega
    ·have hjlt:j<x.vars.length:=by omega
     have hji:(j:Int)<(x.vars.length:Int):=by omega
     obtain⟨v,hv⟩:∃ v,x.vars[j]?=some v:=⟨_,List.getElem?_eq_getElem hjlt⟩
     obtain⟨b2,off2,cs,rfl,hb2,_,hr,hp⟩:=HL2.out.get hv
     obtain⟨w1,w2,w3,w4,rfl,_,f1,f2,f3,d1,d2,d3,d4⟩:=hp
     obtain⟨D1,t1,rfl,_,_⟩:=d1.val
     obtain⟨D2,t2,rfl,_,_⟩:=d2.val
     obtain⟨D3,t3,rfl,_,_⟩:=d3.val
     obtain⟨D4,t4,rfl,_,_⟩:=d4.val
     have hBw:Below w.heap.size w wr:=hC.out.2
     have e0:wr.cell? ⟨b2,off2+j*8,none⟩=some (.string v.name):=(hBw.cell (p:=⟨b2,off2+j*8,none⟩) hb2).trans (hr 0 _ rfl)
     have e1:wr.cell? ⟨b2,off2+j*8+1,none⟩=some (.int .i64 v.typ):=(hBw.cell (p:=⟨b2,off2+j*8+1,none⟩) hb2).trans (hr 1 _ rfl)
     have e2:wr.cell? ⟨b2,off2+j*8+2,none⟩=some (.slice D1 v.dims.length t1):=(hBw.cell (p:=⟨b2,off2+j*8+2,none⟩) hb2).trans (hr 2 _ rfl)
     have e3:wr.cell? ⟨b2,off2+j*8+3,none⟩=some (.slice D2 v.chunks.length t2):=(hBw.cell (p:=⟨b2,off2+j*8+3,none⟩) hb2).trans (hr 3 _ rfl)
     have e4:wr.cell? ⟨b2,off2+j*8+4,none⟩=some (.string v.fill):=(hBw.cell (p:=⟨b2,off2+j*8+4,none⟩) hb2).trans (hr 4 _ rfl)
     have e5:wr.cell? ⟨b2,off2+j*8+5,none⟩=some (.string v.unit):=(hBw.cell (p:=⟨b2,off2+j*8+5,none⟩) hb2).trans (hr 5 _ rfl)
     have e6:wr.cell? ⟨b2,off2+j*8+6,none⟩=some (.slice D3 v.stages.length t3):=(hBw.cell (p:=⟨b2,off2+j*8+6,none⟩) hb2).trans (hr 6 _ rfl)
     have e7:wr.cell? ⟨b2,off2+j*8+7,none⟩=some (.slice D4 v.attrs.length t4):=(hBw.cell (p:=⟨b2,off2+j*8+7,none⟩) hb2).trans (hr 7 _ rfl)
     have y0:wr.cell? ⟨g8,0,none⟩=some (.string x.path):=hD.out.2.cell 0
     have x0:wr.cell? ⟨w.heap.size,0,none⟩=some (.slice (some ⟨b0,off,none⟩) n c):=hD.out.1.cell 0
     have hwz:w.heap.size<wr.heap.size:=hD.out.1.lt
     have hgz:g8<wr.heap.size:=hD.out.2.lt
     have RE0:=fun w5 (hb:Below w.heap.size w w5)=>yes (.slice (some ⟨b0,off,none⟩) n c) xs x.path N w5 ((VL.keeps yah HV.out hb).lifts yai hb.size) HXP.out (HW.out.up hb)
     have CO0:=fun w5 (hb:Below w.heap.size w w5)=>yd1 N ((VL.keeps yav d1 hb).lifts yao hb.size)
     have RE:=fun w5 (hb:Below wr.heap.size wr w5)=>RE0 w5 (yac hBw hb)
     have CO:=fun w5 (hb:Below wr.heap.size wr w5)=>CO0 w5 (yac hBw hb)
     have hll:(l0++((x.vars.take j).filter (useB xs g (bl N) x)).map fun v=>(x.path,v.name)).length<=2250001500000:=by
      rw[List.length_append,List.length_map]
      have h1:=List.length_filter_le (useB xs g (bl N) x) (x.vars.take j)
      rw[List.length_take] at h1
      omega
     have HN:=zh (yg9 (p:=useB xs g (bl N) x) (f:=fun v=>(x.path,v.name)) hv)
     obtain⟨l1,hl1⟩:∃ l1,l0++((x.vars.take j).filter (useB xs g (bl N) x)).map (fun v=>(x.path,v.name))=l1:=⟨_,rfl⟩
     rw[hl1] at hC hll
     have HL1:=zh hl1
     have HD:=zh hD.out
     have HC:=zh hC.out
     clear hr hv d1 d2 d3 d4 f1 f2 f3 HL2 HV hD hC HY3 hBw HR HS HW RE0 CO0 hl1 HGo HXP
     have hu:useB xs g (bl N) x v=((resolveB xs (bl N) (x.path.size+1) (bl x.path)).map (·.1)==some g&&decide (bl N ∈ v.dims.map bl)):=rfl
     obtain⟨ro,hro⟩:∃ ro,resolveB xs (bl N) (x.path.size+1) (bl x.path)=ro:=⟨_,rfl⟩
     rw[hro] at hu RE
     clear hro
     have NO:=zh (show useB xs g (bl N) x v=false->l1=l0++((x.vars.take (j+1)).filter (useB xs g (bl N) x)).map fun v=>(x.path,v.name) from fun h=>by
      rw[HN.out,h,<- HL1.out];simp)
     have YES:=zh (show useB xs g (bl N) x v=true->l1++[(x.path,v.name)]=l0++((x.vars.take (j+1)).filter (useB xs g (bl N) x)).map fun v=>(x.path,v.name) from fun h=>by
      rw[HN.out,h,<- HL1.out];simp)
     clear HN HL1
     by_cases hg:ro.map (·.1)=some g
     ·obtain⟨d',rfl⟩:∃ d',ro=some (g,d'):=by
       cases ro with
       | none=>cases hg
       | some p=>
        obtain⟨a,b⟩:=p
        injection hg with hg
        exact⟨b,by rw[<- hg]⟩
      simp only[resV] at RE
      by_cases hq:bl N ∈ v.dims.map bl
      ·have hL:=YES.out (by rw[hu,decide_eq_true hq];simp)
       rw[decide_eq_true hq] at CO
       clear hu NO YES hg hq
       go_wp2_with (first
        | (at_builtin;refine wpList_append_own_at _ rfl (.tmp 45) (.tmp 51) _ rfl w.heap.size 112 i0 (.agg #[.string ⟨#[]⟩,.string ⟨#[]⟩,.slice none 0 0]) 3 56 Tryz.underlying46 hi0 hi1 hi2 hi3 rfl (by decide) _ _ _ rfl (OWN.out.alloc _) _ 1 1 (chunkRow (x.path,v.name)) rfl rfl (yed _ (chunkRow (x.path,v.name)) _ _ (by simp)) (yp6 _) (by unfold maxLen;omega) (by omega) (yaa BW.out _).size ?_;intro v9 w9 a2 g2 m2 l2;have A2:=zh a2;have G2:=zh (yjf (OWN.out.alloc _) (yaa BW.out _) g2);have GY:=zh g2;clear a2 g2 m2 l2)
        | (go_at_call 81;(with_reducible refine(CO _ b6).mono ?_);rintro e w7 ⟨rfl,rfl⟩)
        | (go_at_call 10;(with_reducible refine(RE _ (by (repeat (first|exact zJ _ _|assumption|refine yab ?_ _|refine zL ?_|refine yac ?_ (by assumption)|refine yaa ?_ _|refine zO ?_ (by simp<;>omega) _|refine zP ?_ (by simp<;>omega) _)))).mono ?_);rintro e w6 ⟨rfl,hb⟩;have b6:Below wr.heap.size wr w6:=(by (repeat (first|exact zJ _ _|assumption|refine yab ?_ _|refine zL ?_|refine yac ?_ (by assumption)|refine yaa ?_ _|refine zO ?_ (by simp<;>omega) _|refine zP ?_ (by simp<;>omega) _)));have OWN:=zh (yal (HC.out.1.alloc _) hb);have BW:=zh (yac (yaa HC.out.2 _) hb);have kv2:w6.cell? ⟨wr.heap.size,2,none⟩=some (.slice D1 v.dims.length t1):=(hb.cell (p:=⟨wr.heap.size,2,none⟩) (by simp)).trans (by go_keep);have kv0:w6.cell? ⟨wr.heap.size,0,none⟩=some (.string v.name):=(hb.cell (p:=⟨wr.heap.size,0,none⟩) (by simp)).trans (by go_keep);have kg0:w6.cell? ⟨g8,0,none⟩=some (.string x.path):=(b6.cell (p:=⟨g8,0,none⟩) hgz).trans y0;clear hb))
       go_roundw
       case rel=>
        refine⟨j+1,by omega,by go_num,zh ?_,zh ?_⟩
        ·rw[<- hL]
         refine⟨?_,G2.out⟩
         rw[List.length_append,List.map_append,List.flatten_append]
         simpa using A2.out
        ·exact⟨yfg (HD.out.1.up b6).alloc (OWN.out.alloc _) (by decide) GY.out,yfg (HD.out.2.up b6).alloc (OWN.out.alloc _) (by decide) GY.out⟩
       case measure=>simp only[intOf];omega
      ·have hL:=NO.out (by rw[hu,decide_eq_false hq,Bool.and_false])
       rw[decide_eq_false hq] at CO
       clear hu NO YES hg hq
       go_wp2_with (first
        | (go_at_call 81;(with_reducible refine(CO _ b6).mono ?_);rintro e w7 ⟨rfl,rfl⟩)
        | (go_at_call 10;(with_reducible refine(RE _ (by (repeat (first|exact zJ _ _|assumption|refine yab ?_ _|refine zL ?_|refine yac ?_ (by assumption)|refine yaa ?_ _|refine zO ?_ (by simp<;>omega) _|refine zP ?_ (by simp<;>omega) _)))).mono ?_);rintro e w6 ⟨rfl,hb⟩;have b6:Below wr.heap.size wr w6:=(by (repeat (first|exact zJ _ _|assumption|refine yab ?_ _|refine zL ?_|refine yac ?_ (by assumption)|refine yaa ?_ _|refine zO ?_ (by simp<;>omega) _|refine zP ?_ (by simp<;>omega) _)));have OWN:=zh (yal (HC.out.1.alloc _) hb);have BW:=zh (yac (yaa HC.out.2 _) hb);have kv2:w6.cell? ⟨wr.heap.size,2,none⟩=some (.slice D1 v.dims.length t1):=(hb.cell (p:=⟨wr.heap.size,2,none⟩) (by simp)).trans (by go_keep);have kv0:w6.cell? ⟨wr.heap.size,0,none⟩=some (.string v.name):=(hb.cell (p:=⟨wr.heap.size,0,none⟩) (by simp)).trans (by go_keep);have kg0:w6.cell? ⟨g8,0,none⟩=some (.string x.path):=(b6.cell (p:=⟨g8,0,none⟩) hgz).trans y0;clear hb))
       go_roundw
       case rel=>exact⟨j+1,by omega,by go_num,zh (by rw[<- hL];exact RowC.up HC.out b6),zh ⟨HD.out.1.up b6,HD.out.2.up b6⟩⟩
       case measure=>simp only[intOf];omega
     ·have hL:=NO.out (by rw[hu];simp[hg])
      cases ro with
      | none=>
       simp only[resV] at RE
       clear hu NO YES hg CO
       go_wp2_with (first
        | (go_at_call 10;(with_reducible refine(RE _ (by (repeat (first|exact zJ _ _|assumption|refine yab ?_ _|refine zL ?_|refine yac ?_ (by assumption)|refine yaa ?_ _|refine zO ?_ (by simp<;>omega) _|refine zP ?_ (by simp<;>omega) _)))).mono ?_);rintro e w6 ⟨rfl,hb⟩;have b6:Below wr.heap.size wr w6:=(by (repeat (first|exact zJ _ _|assumption|refine yab ?_ _|refine zL ?_|refine yac ?_ (by assumption)|refine yaa ?_ _|refine zO ?_ (by simp<;>omega) _|refine zP ?_ (by simp<;>omega) _)));have OWN:=zh (yal (HC.out.1.alloc _) hb);have BW:=zh (yac (yaa HC.out.2 _) hb);have kv2:w6.cell? ⟨wr.heap.size,2,none⟩=some (.slice D1 v.dims.length t1):=(hb.cell (p:=⟨wr.heap.size,2,none⟩) (by simp)).trans (by go_keep);have kv0:w6.cell? ⟨wr.heap.size,0,none⟩=some (.string v.name):=(hb.cell (p:=⟨wr.heap.size,0,none⟩) (by simp)).trans (by go_keep);have kg0:w6.cell? ⟨g8,0,none⟩=some (.string x.path):=(b6.cell (p:=⟨g8,0,none⟩) hgz).trans y0;clear hb))
       go_roundw
       case rel=>exact⟨j+1,by omega,by go_num,zh (by rw[<- hL];exact RowC.up HC.out b6),zh ⟨HD.out.1.up b6,HD.out.2.up b6⟩⟩
       case measure=>simp only[intOf];omega
      | some p=>
       obtain⟨a,b⟩:=p
       have hab:((a:Int)==(g:Int))=false:=by
        rw[beq_eq_false_iff_ne]
        intro e
        apply hg
        rw[Option.map_some,show a=g by omega]
       simp only[resV] at RE
       clear hu NO YES hg CO
       go_wp2_with (first
        | (go_at_call 10;(with_reducible refine(RE _ (by (repeat (first|exact zJ _ _|assumption|refine yab ?_ _|refine zL ?_|refine yac ?_ (by assumption)|refine yaa ?_ _|refine zO ?_ (by simp<;>omega) _|refine zP ?_ (by simp<;>omega) _)))).mono ?_);rintro e w6 ⟨rfl,hb⟩;have b6:Below wr.heap.size wr w6:=(by (repeat (first|exact zJ _ _|assumption|refine yab ?_ _|refine zL ?_|refine yac ?_ (by assumption)|refine yaa ?_ _|refine zO ?_ (by simp<;>omega) _|refine zP ?_ (by simp<;>omega) _)));have OWN:=zh (yal (HC.out.1.alloc _) hb);have BW:=zh (yac (yaa HC.out.2 _) hb);have kv2:w6.cell? ⟨wr.heap.size,2,none⟩=some (.slice D1 v.dims.length t1):=(hb.cell (p:=⟨wr.heap.size,2,none⟩) (by simp)).trans (by go_keep);have kv0:w6.cell? ⟨wr.heap.size,0,none⟩=some (.string v.name):=(hb.cell (p:=⟨wr.heap.size,0,none⟩) (by simp)).trans (by go_keep);have kg0:w6.cell? ⟨g8,0,none⟩=some (.string x.path):=(b6.cell (p:=⟨g8,0,none⟩) hgz).trans y0;clear hb))
       go_roundw
       case rel=>exact⟨j+1,by omega,by go_num,zh (by rw[<- hL];exact RowC.up HC.out b6),zh ⟨HD.out.1.up b6,HD.out.2.up b6⟩⟩
       case measure=>simp only[intOf];omega
def smallS (s:List GroupD):Prop:=(∀ x ∈ s,x.path.size<=4000000000)/\s.length<=1500000/\∀ x ∈ s,x.vars.length<=1500000
def dimsAt (s:List GroupD) (g:Nat):List DimD:=(s[g]?.map (·.dims)).getD []
def usersR (s:List GroupD) (p n:List UInt8):Int×List (ByteArray×ByteArray):=
 if validB s=false then (30,[]) else match groupIx s p with
 | none=>(31,[])
 | some g=>match dimIx (dimsAt s g) n with
  | none=>(31,[])
  | some _=>(0,usersB s g n)
theorem ypt (sv:Value) (xs:List GroupD) (P N:ByteArray) (w:World) (hV:VSchema w w.heap.size sv xs) (hs:smallS xs) (hw:Ws w) :
  Calls Tryz.prog 9 #[.agg #[sv],.string P,.string N] w fun e w'=>∃ u,e=.returned (.tuple #[u,.int .i64 (usersR xs (bl P) (bl N)).1])/\RowC w w' u (usersR xs (bl P) (bl N)).2:=by
 obtain⟨A,c,rfl,hAc,hA63⟩:=hV.val
 have VA:=fun w2 (hb:Below w.heap.size w w2)=>ycu _ xs w2 ((VL.keeps yah hV hb).lifts yai hb.size) hs.1 (hw.up hb)
 have GR:=fun w2 (hb:Below w.heap.size w w2)=>ydv _ xs P w2 ((VL.keeps yah hV hb).lifts yai hb.size)
 have US:=fun g w2 (hb:Below w.heap.size w w2)=>yp2 (.slice A xs.length c) xs g N w2 ((VL.keeps yah hV hb).lifts yai hb.size) hs.1 hs.2.1 hs.2.2 (hw.up hb)
 obtain⟨R,hR⟩:∃ R,usersR xs (bl P) (bl N)=R:=⟨_,rfl⟩
 rw[hR]
 obtain⟨vn,hvn⟩:∃ vn:Value,.slice none 0 0=vn:=⟨_,rfl⟩
 have RN:=fun (w2:World) (hb:Below w.heap.size w w2)=>(show RowC w w2 vn ([]:List (ByteArray×ByteArray)) from⟨by rw[<- hvn];exact World.ownsRow_nil _ _ _ _,hb⟩)
 unfold usersR at hR
 cases hv:validB xs
 ·rw[hv,if_pos rfl] at hR
  subst hR
  rw[hv] at VA
  clear hV hs hw GR US hv hvn RN hAc hA63
  go_enter Tryz.func9,Tryz.ntmps9
  go_wp2_with (go_at_call 6;(with_reducible refine(VA _ (by (repeat (first|exact zJ _ _|assumption|refine yab ?_ _|refine zL ?_|refine yac ?_ (by assumption)|refine yaa ?_ _|refine zO ?_ (by simp<;>omega) _|refine zP ?_ (by simp<;>omega) _)))).mono ?_);rintro e w1 ⟨rfl,hb⟩;have b1:Below w.heap.size w w1:=(by (repeat (first|exact zJ _ _|assumption|refine yab ?_ _|refine zL ?_|refine yac ?_ (by assumption)|refine yaa ?_ _|refine zO ?_ (by simp<;>omega) _|refine zP ?_ (by simp<;>omega) _)));clear hb)
  go_ret2
  exact⟨_,rfl,World.ownsRow_nil _ _ _ _,b1⟩
 ·rw[hv,if_neg (by decide)] at hR
  rw[hv] at VA
  cases hg:groupIx xs (bl P) with
  | none=>
   rw[hg] at hR
   subst hR
   rw[show xs.findIdx? (fun x=>bl x.path==bl P)=none from hg,ixV] at GR
   clear hV hs hw US hv hg hvn RN hAc hA63
   go_enter Tryz.func9,Tryz.ntmps9
   go_wp2_with (first
    | (go_at_call 13;(with_reducible refine(GR _ b1).mono ?_);rintro e w2 ⟨rfl,hb⟩;have b2:Below w.heap.size w w2:=yac b1 hb;clear hb)
    | (go_at_call 6;(with_reducible refine(VA _ (by (repeat (first|exact zJ _ _|assumption|refine yab ?_ _|refine zL ?_|refine yac ?_ (by assumption)|refine yaa ?_ _|refine zO ?_ (by simp<;>omega) _|refine zP ?_ (by simp<;>omega) _)))).mono ?_);rintro e w1 ⟨rfl,hb⟩;have b1:Below w.heap.size w w1:=(by (repeat (first|exact zJ _ _|assumption|refine yab ?_ _|refine zL ?_|refine yac ?_ (by assumption)|refine yaa ?_ _|refine zO ?_ (by simp<;>omega) _|refine zP ?_ (by simp<;>omega) _)));have k0:w1.cell? ⟨w.heap.size,0,none⟩=some (.slice A xs.length c):=(hb.cell (p:=⟨w.heap.size,0,none⟩) (by simp)).trans (by go_keep);clear hb))
   go_ret2
   exact⟨_,rfl,World.ownsRow_nil _ _ _ _,b2⟩
  | some g=>
   rw[hg] at hR
   rw[show xs.findIdx? (fun x=>bl x.path==bl P)=some g from hg,ixV] at GR
   obtain⟨x,hx,_⟩:=yde hg
   have hgl:=(List.getElem?_eq_some_iff.1 hx).1
   have hgi:(g:Int)<(xs.length:Int):=by omega
   obtain⟨b0,off,cs,rfl,hb0,_,hr,hp⟩:=hV.get hx
   obtain⟨v1,v2,v3,rfl,hpo,l1,l2,l3⟩:=hp
   obtain⟨B1,u1,rfl,_,_⟩:=l1.val
   obtain⟨B2,u2,rfl,_,_⟩:=l2.val
   obtain⟨B3,u3,rfl,_,_⟩:=l3.val
   have hda:dimsAt xs g=x.dims:=by unfold dimsAt;rw[hx];rfl
   have DI:=fun w2 (hb:Below w.heap.size w w2)=>ykh x.path (.slice B1 x.dims.length u1) (.slice B2 x.vars.length u2) (.slice B3 x.attrs.length u3) x.dims N w2 ((VL.keeps ybh l1 hb).lifts ya2 hb.size)
   have US:=US g
   have CE:=zh (show ∀ w2,Below w.heap.size w w2->w2.rangeAt b0 (off+g*4) [.string x.path,.slice B1 x.dims.length u1,.slice B2 x.vars.length u2,.slice B3 x.attrs.length u3] from fun w2 hb=>yad hr hb hb0)
   cases hd:dimIx x.dims (bl N) with
   | none=>
    dsimp only at hR
    rw[hda,hd] at hR
    subst hR
    rw[show x.dims.findIdx? (fun y=>bl y.name==bl N)=none from hd,ixV] at DI
    clear hV hs hw US hv hg hr l1 l2 l3 hx hd hda hvn RN hAc hA63
    go_enter Tryz.func9,Tryz.ntmps9
    go_wp2_with (first
     | (go_at_call 32;(with_reducible refine(DI _ b2).mono ?_);rintro e w3 ⟨rfl,hb⟩;have b3:Below w.heap.size w w3:=yac b2 hb;clear hb)
     | (go_at_call 13;(with_reducible refine(GR _ b1).mono ?_);rintro e w2 ⟨rfl,hb⟩;have b2:Below w.heap.size w w2:=yac b1 hb;have k1:w2.cell? ⟨w.heap.size,0,none⟩=some (.slice (some ⟨b0,off,none⟩) xs.length c):=(hb.cell (p:=⟨w.heap.size,0,none⟩) hz1).trans k0;have ce:=CE.out w2 b2;have f0:w2.cell? ⟨b0,off+g*4,none⟩=_:=ce 0 _ rfl;have f1:w2.cell? ⟨b0,off+g*4+1,none⟩=_:=ce 1 _ rfl;have f2:w2.cell? ⟨b0,off+g*4+2,none⟩=_:=ce 2 _ rfl;have f3:w2.cell? ⟨b0,off+g*4+3,none⟩=_:=ce 3 _ rfl;clear ce hb k0)
     | (go_at_call 6;(with_reducible refine(VA _ (by (repeat (first|exact zJ _ _|assumption|refine yab ?_ _|refine zL ?_|refine yac ?_ (by assumption)|refine yaa ?_ _|refine zO ?_ (by simp<;>omega) _|refine zP ?_ (by simp<;>omega) _)))).mono ?_);rintro e w1 ⟨rfl,hb⟩;have b1:Below w.heap.size w w1:=(by (repeat (first|exact zJ _ _|assumption|refine yab ?_ _|refine zL ?_|refine yac ?_ (by assumption)|refine yaa ?_ _|refine zO ?_ (by simp<;>omega) _|refine zP ?_ (by simp<;>omega) _)));have hz1:w.heap.size<w1.heap.size:=(by have h9:=hb.size;simp at h9;omega);have k0:w1.cell? ⟨w.heap.size,0,none⟩=some (.slice (some ⟨b0,off,none⟩) xs.length c):=(hb.cell (p:=⟨w.heap.size,0,none⟩) (by simp)).trans (by go_keep);clear hb))
    go_ret2
    exact⟨_,rfl,World.ownsRow_nil _ _ _ _,b3⟩
   | some d=>
    dsimp only at hR
    rw[hda,hd] at hR
    subst hR
    rw[show x.dims.findIdx? (fun y=>bl y.name==bl N)=some d from hd,ixV] at DI
    obtain⟨ul,hul⟩:∃ ul,usersB xs g (bl N)=ul:=⟨_,rfl⟩
    rw[hul] at US ⊢
    clear hV hs hw hv hg hr l1 l2 l3 hx hd hda hul hvn RN hAc hA63
    go_enter Tryz.func9,Tryz.ntmps9
    go_wp2_with (first
     | (go_at_call 33;(with_reducible refine(US _ b3).mono ?_);rintro e w4 ⟨u,rfl,hro⟩;have RO:=zh hro;clear hro)
     | (go_at_call 32;(with_reducible refine(DI _ b2).mono ?_);rintro e w3 ⟨rfl,hb⟩;have b3:Below w.heap.size w w3:=yac b2 hb;have k2:w3.cell? ⟨w.heap.size,0,none⟩=some (.slice (some ⟨b0,off,none⟩) xs.length c):=(hb.cell (p:=⟨w.heap.size,0,none⟩) hz2).trans k1;clear hb)
     | (go_at_call 13;(with_reducible refine(GR _ b1).mono ?_);rintro e w2 ⟨rfl,hb⟩;have b2:Below w.heap.size w w2:=yac b1 hb;have hz2:w.heap.size<w2.heap.size:=Nat.lt_of_lt_of_le hz1 hb.size;have k1:w2.cell? ⟨w.heap.size,0,none⟩=some (.slice (some ⟨b0,off,none⟩) xs.length c):=(hb.cell (p:=⟨w.heap.size,0,none⟩) hz1).trans k0;have ce:=CE.out w2 b2;have f0:w2.cell? ⟨b0,off+g*4,none⟩=_:=ce 0 _ rfl;have f1:w2.cell? ⟨b0,off+g*4+1,none⟩=_:=ce 1 _ rfl;have f2:w2.cell? ⟨b0,off+g*4+2,none⟩=_:=ce 2 _ rfl;have f3:w2.cell? ⟨b0,off+g*4+3,none⟩=_:=ce 3 _ rfl;clear ce hb k0)
     | (go_at_call 6;(with_reducible refine(VA _ (by (repeat (first|exact zJ _ _|assumption|refine yab ?_ _|refine zL ?_|refine yac ?_ (by assumption)|refine yaa ?_ _|refine zO ?_ (by simp<;>omega) _|refine zP ?_ (by simp<;>omega) _)))).mono ?_);rintro e w1 ⟨rfl,hb⟩;have b1:Below w.heap.size w w1:=(by (repeat (first|exact zJ _ _|assumption|refine yab ?_ _|refine zL ?_|refine yac ?_ (by assumption)|refine yaa ?_ _|refine zO ?_ (by simp<;>omega) _|refine zP ?_ (by simp<;>omega) _)));have hz1:w.heap.size<w1.heap.size:=(by have h9:=hb.size;simp at h9;omega);have k0:w1.cell? ⟨w.heap.size,0,none⟩=some (.slice (some ⟨b0,off,none⟩) xs.length c):=(hb.cell (p:=⟨w.heap.size,0,none⟩) (by simp)).trans (by go_keep);clear hb))
    go_ret2
    exact⟨_,rfl,yea RO.out.1 b3.size,yac b3 RO.out.2⟩
def pathAt (s:List GroupD) (g:Nat):ByteArray:=(s[g]?.map (·.path)).getD ⟨#[]⟩
def dimAt (s:List GroupD) (x:Nat×Nat):DimD:=((dimsAt s x.1)[x.2]?).getD ⟨⟨#[]⟩,0,false⟩
def resolveR (s:List GroupD) (p n:List UInt8):Int×ByteArray×DimD:=
 if validB s=false then (30,⟨#[]⟩,⟨⟨#[]⟩,0,false⟩) else match resolveB s n (p.length+1) p with
 | none=>(31,⟨#[]⟩,⟨⟨#[]⟩,0,false⟩)
 | some x=>(0,pathAt s x.1,dimAt s x)
def dimV (d:DimD):Value:=.agg #[.string d.name,.int .i64 d.size,.bool d.opn]
def rslV (r:Int×ByteArray×DimD):Value:=.tuple #[.string r.2.1,dimV r.2.2,.int .i64 r.1]
theorem yeu {fn:Func} {p u v:Tmp} {ty:TypeId} (h:fn.results=#[.tmp u,.cell p ty,.tmp v]) {tmps:Array Value} {P:Program} {w:World} {g:Nat} {V U U':Value} (hu:tmps.getD u undef=U) (hx:tmps.getD p undef=.pointer (some ⟨g,0,none⟩)) (hl:(loadVar ty ⟨g,0,none⟩).run P w=.ok V w) (hv:tmps.getD v undef=U') :
  (results fn tmps).run P w=.ok (.tuple #[U,V,U']) w:=by
 subst hu hv
 simp only[results,h]
 have hx':tmps[p]?.getD undef=.pointer (some ⟨g,0,none⟩):=by simpa using hx
 simp[Result.andThen,hx',asAddr,hl]
theorem ygg {α:Type} {l:List α} {k:Nat} {x:α} (h:l[k]?=some x):k<l.length:=(List.getElem?_eq_some_iff.1 h).1
theorem yk1 (sv:Value) (xs:List GroupD) (P N:ByteArray) (w:World) (hV:VSchema w w.heap.size sv xs) (hs:smallS xs) (hP:P.size<=4000000000) (hw:Ws w) :
  Calls Tryz.prog 4 #[.agg #[sv],.string P,.string N] w fun e w'=>e=.returned (rslV (resolveR xs (bl P) (bl N)))/\Below w.heap.size w w':=by
 obtain⟨A,c,rfl,hAc,hA63⟩:=hV.val
 have VA:=fun w2 (hb:Below w.heap.size w w2)=>ycu _ xs w2 ((VL.keeps yah hV hb).lifts yai hb.size) hs.1 (hw.up hb)
 have RS:=fun w2 (hb:Below w.heap.size w w2)=>yes _ xs P N w2 ((VL.keeps yah hV hb).lifts yai hb.size) hP (hw.up hb)
 rw[<- yag] at RS
 obtain⟨R,hR⟩:∃ R,resolveR xs (bl P) (bl N)=R:=⟨_,rfl⟩
 rw[hR]
 unfold resolveR at hR
 obtain⟨wx,hwx⟩:∃ wx,wx=(w.alloc (.cells #[.slice A xs.length c] 24)).alloc (.cells #[.string ⟨#[]⟩,.int .i64 0,.bool false] 26):=⟨_,rfl⟩
 have hx1:Below w.heap.size w wx:=by rw[hwx];(repeat (first|exact zJ _ _|assumption|refine yab ?_ _|refine zL ?_|refine yac ?_ (by assumption)|refine yaa ?_ _|refine zO ?_ (by simp<;>omega) _|refine zP ?_ (by simp<;>omega) _))
 have zx:wx.heap.size=w.heap.size+2:=by rw[hwx];simp
 have kb:Bk wx (w.heap.size+1) #[.string ⟨#[]⟩,.int .i64 0,.bool false] 26:=by
  have h:=Bk.new (w.alloc (.cells #[.slice A xs.length c] 24)) #[.string ⟨#[]⟩,.int .i64 0,.bool false] 26
  rw[World.size_alloc,<- hwx] at h
  exact h
 have kx:Bk wx w.heap.size #[.slice A xs.length c] 24:=by rw[hwx];exact(Bk.new w _ _).alloc
 have VA:=fun w2 (hb:Below wx.heap.size wx w2)=>VA w2 (hx1.trans (hb.mono hx1.size))
 have RS:=fun w2 (hb:Below wx.heap.size wx w2)=>RS w2 (hx1.trans (hb.mono hx1.size))
 have HKB:=zh (show ∀ w2,Below wx.heap.size wx w2->Bk w2 (w.heap.size+1) #[.string ⟨#[]⟩,.int .i64 0,.bool false] 26 from fun w2 hb=>kb.up hb)
 have HKX:=zh (show ∀ w2,Below wx.heap.size wx w2->Bk w2 w.heap.size #[.slice A xs.length c] 24 from fun w2 hb=>kx.up hb)
 clear kb kx
 cases hv:validB xs
 ·rw[hv,if_pos rfl] at hR
  subst hR
  rw[hv] at VA
  clear hV hs hw RS hv hAc hA63
  go_enter Tryz.func4,Tryz.ntmps4
  go_wp2_with fail
  rw[<- hwx]
  clear hwx
  go_wp2_with (go_at_call 6;(with_reducible refine(VA _ (Below.refl _ _)).mono ?_);rintro e w1 ⟨rfl,b1⟩;have kb1:=HKB.out w1 b1;have kx1:=HKX.out w1 b1;have c0:w1.cell? ⟨w.heap.size+1,0,none⟩=some (.string ⟨#[]⟩):=kb1.cell 0;have c1:w1.cell? ⟨w.heap.size+1,1,none⟩=some (.int .i64 0):=kb1.cell 1;have c2:w1.cell? ⟨w.heap.size+1,2,none⟩=some (.bool false):=kb1.cell 2;have z0:=kb1.frozen 0;have z1:=kb1.frozen 1;have z2:=kb1.frozen 2;have x0:w1.cell? ⟨w.heap.size,0,none⟩=some (.slice A xs.length c):=kx1.cell 0)
  have kF:=((kb1.set (i:=0) (.string ⟨#[]⟩)).set (i:=1) (.int .i64 0)).set (i:=2) (.bool false)
  have hL:=yaw (P:=Tryz.prog) kF Tryz.underlying26 rfl (by kernel_rfl)
  refine bodyPost_ret (yeu rfl rfl rfl hL rfl) rfl ⟨rfl,?_⟩
  exact(((hx1.trans (b1.mono hx1.size)).setCell (p:=⟨w.heap.size+1,0,none⟩) (Nat.le_succ _) _).setCell (p:=⟨w.heap.size+1,1,none⟩) (Nat.le_succ _) _).setCell (p:=⟨w.heap.size+1,2,none⟩) (Nat.le_succ _) _
 ·rw[hv,if_neg (by decide)] at hR
  rw[hv] at VA
  cases hr:resolveB xs (bl N) ((bl P).length+1) (bl P) with
  | none=>
   rw[hr] at hR RS
   subst hR
   simp only[resV] at RS
   clear hV hs hw hv hr hAc hA63
   go_enter Tryz.func4,Tryz.ntmps4
   go_wp2_with fail
   rw[<- hwx]
   clear hwx
   go_wp2_with (first|(go_at_call 10;(with_reducible refine(RS _ b1).mono ?_);rintro e w2 ⟨rfl,hb⟩;have b2:Below wx.heap.size wx w2:=yac b1 hb;have kb2:=HKB.out w2 b2;have c0:w2.cell? ⟨w.heap.size+1,0,none⟩=some (.string ⟨#[]⟩):=kb2.cell 0;have c1:w2.cell? ⟨w.heap.size+1,1,none⟩=some (.int .i64 0):=kb2.cell 1;have c2:w2.cell? ⟨w.heap.size+1,2,none⟩=some (.bool false):=kb2.cell 2;have z0:=kb2.frozen 0;have z1:=kb2.frozen 1;have z2:=kb2.frozen 2;have k1:w2.cell? ⟨w.heap.size,0,none⟩=some (.slice A xs.length c):=(HKX.out w2 b2).cell 0;clear hb)|(go_at_call 6;(with_reducible refine(VA _ (Below.refl _ _)).mono ?_);rintro e w1 ⟨rfl,b1⟩;have kb1:=HKB.out w1 b1;have kx1:=HKX.out w1 b1;have c0:w1.cell? ⟨w.heap.size+1,0,none⟩=some (.string ⟨#[]⟩):=kb1.cell 0;have c1:w1.cell? ⟨w.heap.size+1,1,none⟩=some (.int .i64 0):=kb1.cell 1;have c2:w1.cell? ⟨w.heap.size+1,2,none⟩=some (.bool false):=kb1.cell 2;have z0:=kb1.frozen 0;have z1:=kb1.frozen 1;have z2:=kb1.frozen 2;have x0:w1.cell? ⟨w.heap.size,0,none⟩=some (.slice A xs.length c):=kx1.cell 0))
   have kF:=((kb2.set (i:=0) (.string ⟨#[]⟩)).set (i:=1) (.int .i64 0)).set (i:=2) (.bool false)
   have hL:=yaw (P:=Tryz.prog) kF Tryz.underlying26 rfl (by kernel_rfl)
   refine bodyPost_ret (yeu rfl rfl rfl hL rfl) rfl ⟨rfl,?_⟩
   exact(((hx1.trans (b2.mono hx1.size)).setCell (p:=⟨w.heap.size+1,0,none⟩) (Nat.le_succ _) _).setCell (p:=⟨w.heap.size+1,1,none⟩) (Nat.le_succ _) _).setCell (p:=⟨w.heap.size+1,2,none⟩) (Nat.le_succ _) _
  | some p=>
   obtain⟨g,d⟩:=p
   rw[hr] at hR RS
   obtain⟨x,y,hx,hy,_⟩:=ycy hr
   have e1:pathAt xs g=x.path:=by unfold pathAt;rw[hx];rfl
   have e2:dimAt xs (g,d)=y:=by unfold dimAt dimsAt;rw[hx];show (x.dims[d]?).getD _=y;rw[hy];rfl
   dsimp only at hR
   rw[e1,e2] at hR
   subst hR
   simp only[resV] at RS
   have hgl:=ygg hx
   have hdl:=ygg hy
   obtain⟨b0,off,cs,rfl,hb0,_,hrr,hp⟩:=hV.get hx
   obtain⟨v1,v2,v3,rfl,hpo,l1,l2,l3⟩:=hp
   obtain⟨B1,u1,rfl,_,_⟩:=l1.val
   obtain⟨B2,u2,rfl,_,_⟩:=l2.val
   obtain⟨B3,u3,rfl,_,_⟩:=l3.val
   obtain⟨bq,of1,cs,rfl,hb1',_,hrd0,hpd⟩:=l1.get hy
   obtain⟨rfl,_,_⟩:=hpd
   have hgi:(g:Int)<(xs.length:Int):=by omega
   have hdi:(d:Int)<(x.dims.length:Int):=by omega
   have HRG:=zh (show ∀ w2,Below wx.heap.size wx w2->w2.rangeAt b0 (off+g*4) [.string x.path,.slice (some ⟨bq,of1,none⟩) x.dims.length u1,.slice B2 x.vars.length u2,.slice B3 x.attrs.length u3]/\w2.rangeAt bq (of1+d*3) [.string y.name,.int .i64 y.size,.bool y.opn] from fun w2 hb=>⟨yad hrr (hx1.trans (hb.mono hx1.size)) hb0,yad hrd0 (hx1.trans (hb.mono hx1.size)) hb1'⟩)
   clear hV hs hw hv hr hx hy e1 e2 l1 l2 l3 hrr hrd0 hAc hA63
   go_enter Tryz.func4,Tryz.ntmps4
   go_wp2_with fail
   rw[<- hwx]
   clear hwx
   go_wp2_with (first|(go_at_call 10;(with_reducible refine(RS _ b1).mono ?_);rintro e w2 ⟨rfl,hb⟩;have b2:Below wx.heap.size wx w2:=yac b1 hb;have kb2:=HKB.out w2 b2;have c0:w2.cell? ⟨w.heap.size+1,0,none⟩=some (.string ⟨#[]⟩):=kb2.cell 0;have c1:w2.cell? ⟨w.heap.size+1,1,none⟩=some (.int .i64 0):=kb2.cell 1;have c2:w2.cell? ⟨w.heap.size+1,2,none⟩=some (.bool false):=kb2.cell 2;have z0:=kb2.frozen 0;have z1:=kb2.frozen 1;have z2:=kb2.frozen 2;have k1:w2.cell? ⟨w.heap.size,0,none⟩=some (.slice (some ⟨b0,off,none⟩) xs.length c):=(HKX.out w2 b2).cell 0;clear hb)|(go_at_call 6;(with_reducible refine(VA _ (Below.refl _ _)).mono ?_);rintro e w1 ⟨rfl,b1⟩;have kb1:=HKB.out w1 b1;have kx1:=HKX.out w1 b1;have c0:w1.cell? ⟨w.heap.size+1,0,none⟩=some (.string ⟨#[]⟩):=kb1.cell 0;have c1:w1.cell? ⟨w.heap.size+1,1,none⟩=some (.int .i64 0):=kb1.cell 1;have c2:w1.cell? ⟨w.heap.size+1,2,none⟩=some (.bool false):=kb1.cell 2;have z0:=kb1.frozen 0;have z1:=kb1.frozen 1;have z2:=kb1.frozen 2;have x0:w1.cell? ⟨w.heap.size,0,none⟩=some (.slice (some ⟨b0,off,none⟩) xs.length c):=kx1.cell 0))
   obtain⟨hrg,hrd⟩:=HRG.out w2 b2
   refine wp_region_noPanic ?_
   refine xStartH (E:=[16,17]) (S:=fun w'=>w'.cell? ⟨w.heap.size,0,none⟩=some (.slice (some ⟨b0,off,none⟩) xs.length c)/\w'.rangeAt b0 (off+g*4) [.string x.path,.slice (some ⟨bq,of1,none⟩) x.dims.length u1,.slice B2 x.vars.length u2,.slice B3 x.attrs.length u3]/\w'.rangeAt bq (of1+d*3) [.string y.name,.int .i64 y.size,.bool y.opn]/\Bk w' (w.heap.size+1) #[.string ⟨#[]⟩,.int .i64 0,.bool false] 26/\Below w.heap.size w w') (by kernel_rfl) ⟨k1,hrg,hrd,HKB.out w2 b2,Below.drew (hx1.trans (b2.mono hx1.size))⟩ fun hHeld=>?_
   refine xVal 0 25 (.pointer (some ⟨w.heap.size,0,none⟩)) hHeld (by kernel_rfl) (fun w' hSw=>?_) ?_
   ·simp only[List.getElem?_toArray,List.getElem?_cons_zero,Option.map_some,Option.some.injEq];first|(go_simp;done)|(with_reducible rfl)|(go_simp;omega)|(go_simp;go_show;fail)
   simp only[Act.put,zB,zC,zD]
   refine xVal 1 26 (.slice (some ⟨b0,off,none⟩) xs.length c) hHeld (by kernel_rfl) (fun w' hSw=>?_) ?_
   ·have q1:=hSw.1;simp only[zE,zF,zG,zH,zI];first|(go_simp;done)|(with_reducible rfl)|(go_simp;omega)
   simp only[Act.put,zB,zC,zD]
   refine xRun [(2,27,some (.int .i64 (g:Int)))] hHeld (by kernel_rfl) rfl ?_
   simp only[runA,Act.put,zB,zC,zD]
   refine xVal 3 28 (.pointer (some ⟨b0,off+g*4,none⟩)) hHeld (by kernel_rfl) (fun w' hSw=>?_) ?_
   ·simp only[zE,zF,zG,zH,zI];first|(go_simp;done)|(with_reducible rfl)|(go_simp;omega)
   simp only[Act.put,zB,zC,zD]
   refine xVal 4 29 (.pointer (some ⟨b0,off+g*4,none⟩)) hHeld (by kernel_rfl) (fun w' hSw=>?_) ?_
   ·simp only[zE,zF,zG,zH,zI];first|(go_simp;done)|(with_reducible rfl)|(go_simp;omega)
   simp only[Act.put,zB,zC,zD]
   refine xVal 5 30 (.string x.path) hHeld (by kernel_rfl) (fun w' hSw=>?_) ?_
   ·have q1:w'.cell? ⟨b0,off+g*4,none⟩=some (.string x.path):=hSw.2.1 0 _ rfl;simp only[zE,zF,zG,zH,zI];first|(go_simp;done)|(with_reducible rfl)|(go_simp;omega)
   simp only[Act.put,zB,zC,zD]
   refine xRun [(15,6,some (.string x.path))] hHeld (by kernel_rfl) rfl ?_
   simp only[runA,Act.put,zB,zC,zD]
   refine xVal 6 31 (.pointer (some ⟨w.heap.size,0,none⟩)) hHeld (by kernel_rfl) (fun w' hSw=>?_) ?_
   ·simp only[zE,zF,zG,zH,zI];first|(go_simp;done)|(with_reducible rfl)|(go_simp;omega)
   simp only[Act.put,zB,zC,zD]
   refine xVal 7 32 (.slice (some ⟨b0,off,none⟩) xs.length c) hHeld (by kernel_rfl) (fun w' hSw=>?_) ?_
   ·have q1:=hSw.1;simp only[zE,zF,zG,zH,zI];first|(go_simp;done)|(with_reducible rfl)|(go_simp;omega)
   simp only[Act.put,zB,zC,zD]
   refine xRun [(8,33,some (.int .i64 (g:Int)))] hHeld (by kernel_rfl) rfl ?_
   simp only[runA,Act.put,zB,zC,zD]
   refine xVal 9 34 (.pointer (some ⟨b0,off+g*4,none⟩)) hHeld (by kernel_rfl) (fun w' hSw=>?_) ?_
   ·simp only[zE,zF,zG,zH,zI];first|(go_simp;done)|(with_reducible rfl)|(go_simp;omega)
   simp only[Act.put,zB,zC,zD]
   refine xVal 10 35 (.pointer (some ⟨b0,off+g*4+1,none⟩)) hHeld (by kernel_rfl) (fun w' hSw=>?_) ?_
   ·simp only[zE,zF,zG,zH,zI];first|(go_simp;done)|(with_reducible rfl)|(go_simp;omega)
   simp only[Act.put,zB,zC,zD]
   refine xVal 11 36 (.slice (some ⟨bq,of1,none⟩) x.dims.length u1) hHeld (by kernel_rfl) (fun w' hSw=>?_) ?_
   ·have q1:w'.cell? ⟨b0,off+g*4+1,none⟩=some (.slice (some ⟨bq,of1,none⟩) x.dims.length u1):=hSw.2.1 1 _ rfl;simp only[zE,zF,zG,zH,zI];first|(go_simp;done)|(with_reducible rfl)|(go_simp;omega)
   simp only[Act.put,zB,zC,zD]
   refine xRun [(12,37,some (.int .i64 (d:Int)))] hHeld (by kernel_rfl) rfl ?_
   simp only[runA,Act.put,zB,zC,zD]
   refine xVal 13 38 (.pointer (some ⟨bq,of1+d*3,none⟩)) hHeld (by kernel_rfl) (fun w' hSw=>?_) ?_
   ·simp only[zE,zF,zG,zH,zI];first|(go_simp;done)|(with_reducible rfl)|(go_simp;omega)
   simp only[Act.put,zB,zC,zD]
   refine xLoad 14 39 26 (.tmp 38) bq (of1+d*3) [.string y.name,.int .i64 y.size,.bool y.opn] hHeld (by kernel_rfl) (by kernel_rfl) rfl (fun w' hw'=>hw'.2.2.1) Tryz.underlying26 rfl (by kernel_rfl) ?_
   simp only[Act.put,zB,zC,zD]
   have hth:w2.drew.there (w.heap.size+1) 0 3:=fun q hq=>by
    rw[Nat.zero_add]
    match q,hq with
    | 0,_=>exact⟨by show (w2.cell? _).isSome=true;rw[c0];rfl,z0⟩
    | 1,_=>exact⟨by show (w2.cell? _).isSome=true;rw[c1];rfl,z1⟩
    | 2,_=>exact⟨by show (w2.cell? _).isSome=true;rw[c2];rfl,z2⟩
   refine xStoreMid 16 26 (.tmp 7) (.tmp 39) (w.heap.size+1) 0 #[.string y.name,.int .i64 y.size,.bool y.opn] (by kernel_rfl) (by kernel_rfl) rfl rfl hth (by kernel_rfl) (by simp[Value.oneCell']) (fun h=>absurd (by decide) h) ?_
   refine xPure 17 8 (.int .i64 0) (by kernel_rfl) (fun w'=>?_) ?_
   ·kernel_rfl
   simp only[Act.put,zB,zC,zD]
   refine xDone (by kernel_rfl) (tNoP ?_)
   have kb3:Bk w2.drew (w.heap.size+1) #[.string ⟨#[]⟩,.int .i64 0,.bool false] 26:=HKB.out w2 b2
   have kF:=((kb3.set (i:=0) (.string y.name)).set (i:=1) (.int .i64 y.size)).set (i:=2) (.bool y.opn)
   have hfin:Below w.heap.size w (((w2.drew.setCell ⟨w.heap.size+1,0,none⟩ (.string y.name)).setCell ⟨w.heap.size+1,1,none⟩ (.int .i64 y.size)).setCell ⟨w.heap.size+1,2,none⟩ (.bool y.opn)):=(((Below.drew (hx1.trans (b2.mono hx1.size))).setCell (p:=⟨w.heap.size+1,0,none⟩) (Nat.le_succ _) _).setCell (p:=⟨w.heap.size+1,1,none⟩) (Nat.le_succ _) _).setCell (p:=⟨w.heap.size+1,2,none⟩) (Nat.le_succ _) _
   have hL:=zh (yaw (P:=Tryz.prog) kF Tryz.underlying26 rfl (by kernel_rfl))
   have HF:=zh hfin
   clear kF kb3 hth hfin hHeld hrg hrd HRG HKB HKX c0 c1 c2 z0 z1 z2 k1 b2 b1
   go_wp2
   refine bodyPost_ret (yeu rfl rfl rfl hL.out rfl) rfl ⟨rfl,HF.out⟩
theorem yqu (v:Value) (xs:List DimD) (F Fe:Nat->Prop) (x:DimD) (at_:Nat) (w:World) (hD:DO (flt kDim) 3 26 w F v xs) (hn:xs.length<=1500000) (he:(flt kDim) w Fe [.string x.name,.int .i64 x.size,.bool x.opn] x) (hd:∀ b,Fe b->¬F b) (hat:at_<=xs.length)
  (h1:∀ k y,xs[k]?=some y->k<at_->Op.bytesLess (bl y.name) (bl x.name)=true) (h2:∀ k y,xs[k]?=some y->at_<=k->Op.bytesLess (bl y.name) (bl x.name)=false) :
  Calls Tryz.prog 63 #[v,.agg #[.string x.name,.int .i64 x.size,.bool x.opn],.func (.func 42) #[] #[]] w fun e w'=>∃ v' F',e=.returned v'/\DO (flt kDim) 3 26 w' F' v' (xs.take at_++x::xs.drop at_)/\w.grownBy w' v.ownBlock/\∀ b,F' b->F b\/Fe b\/w.heap.size<=b:=by
 have hV:VL kDim 3 w w.heap.size v xs:=hD.vl (fun _ _ _ _ h=>h.1) ya2 hD.cut
 obtain⟨A,c,rfl⟩:=hD.val
 have nb:xs.length<=1000000000:=by omega
 have hlv:(flt kDim) w Fe [.string x.name,.int .i64 x.size,.bool x.opn] x:=he
 have hfl:=(yas yax).2 _ _ _ _ he
 obtain⟨wx,hwx⟩:∃ wx,wx=(w.alloc (.cells #[.string x.name,.int .i64 x.size,.bool x.opn] 26)).alloc (.cells #[.func (.func 42) #[] #[]] 81):=⟨_,rfl⟩
 have hx1:Below w.heap.size w wx:=by rw[hwx];(repeat (first|exact zJ _ _|assumption|refine yab ?_ _|refine zL ?_|refine yac ?_ (by assumption)|refine yaa ?_ _|refine zO ?_ (by simp<;>omega) _|refine zP ?_ (by simp<;>omega) _))
 have zx:wx.heap.size=w.heap.size+2:=by rw[hwx];simp
 have kf:Bk wx (w.heap.size+1) #[.func (.func 42) #[] #[]] 81:=by
  have h:=Bk.new (w.alloc (.cells #[.string x.name,.int .i64 x.size,.bool x.opn] 26)) #[.func (.func 42) #[] #[]] 81
  rw[World.size_alloc,<- hwx] at h
  exact h
 have kx:Bk wx w.heap.size #[.string x.name,.int .i64 x.size,.bool x.opn] 26:=by rw[hwx];exact(Bk.new w _ _).alloc
 have NM:=fun w'=>ya3 x w'
 have BN:=fun w2 (hb:Below wx.heap.size wx w2)=>ysb A xs.length c (w.heap.size+1) xs x.name at_ w2 ((VL.keeps ybh hV (hx1.trans (hb.mono hx1.size))).lifts ya2 (hx1.trans (hb.mono hx1.size)).size) rfl nb ((hb.cell (p:=⟨w.heap.size+1,0,none⟩) (show w.heap.size+1<wx.heap.size by omega)).trans (kf.cell 0)) hat h1 h2
 have IN:=fun w2 (hb:Below wx.heap.size wx w2)=>(show Calls Tryz.prog 110 #[.slice A xs.length c,.int .i64 (at_:Int),.slice (some ⟨w2.heap.size,0,none⟩) 1 1] (w2.alloc (.cells #[.string x.name,.int .i64 x.size,.bool x.opn] 26)) (fun e w'=>∃ v' F',e=.returned v'/\DO (flt kDim) 3 26 w' F' v' (xs.take at_++x::xs.drop at_)/\w.grownBy w' (Value.slice A xs.length c).ownBlock/\∀ b,F' b->F b\/Fe b\/w.heap.size<=b) from by
  have hb2:=(hx1.trans (hb.mono hx1.size))
  have hb3:Below w.heap.size w (w2.alloc (.cells #[.string x.name,.int .i64 x.size,.bool x.opn] 26)):=yaa hb2 _
  have hD3:=DO.more (yas yax) hD hb3
  have he3:=(yas yax).1 _ _ _ _ _ he (fun b hb=>hb3.block b (hfl b hb))
  obtain⟨cs,ho1,ho2,ho3⟩:=hD3.inserted (yas yax) (ymd ygu) hat ⟨_,Fe,x⟩ rfl he3 hd
  have hvb:(Value.slice A xs.length c).ownBlock≠some w2.heap.size:=fun e=>by
   have h3:=(yeq ho1 e).2
   have h4:(∀ g,(Value.slice A xs.length c).ownBlock=some g->g<w.heap.size):=fun g hg=>by
    obtain⟨_,_,_,q2,_⟩:=hD
    exact(yeq q2 hg).2
   have h5:=h4 _ e
   have:=hb2.size
   omega
  refine(ysc _ cs 0 xs.length at_ w2.heap.size [.string x.name,.int .i64 x.size,.bool x.opn] (w2.alloc (.cells #[.string x.name,.int .i64 x.size,.bool x.opn] 26)) ho1 nb hat (Bk.new w2 _ _) rfl hvb ho2 ((ymd ygu) _ _ _ _ he3) (Nat.zero_le _)).mono ?_
  rintro e w' ⟨v',rfl,r1,r2,r3⟩
  refine⟨v',_,rfl,ho3 w' v' r1 r2 r3,⟨r2.os.trans hb3.os,r2.tape.trans hb3.tape,r2.output.trans hb3.output,Nat.le_trans hb3.size r2.size,fun b h1 h2=>(r2.block b (Nat.lt_of_lt_of_le h1 hb3.size) h2).trans (hb3.block b h1)⟩,fun b hb=>?_⟩
  rcases hb with (hb|hb)|hb
  ·exact .inl hb
  ·exact .inr (.inl hb)
  ·exact .inr (.inr (Nat.le_trans hb3.size hb.1)))
 have hk0:wx.cell? ⟨w.heap.size+1,0,none⟩=some (.func (.func 42) #[] #[]):=kf.cell 0
 have HK:=zh (show ∀ w2,Below wx.heap.size wx w2->Bk w2 w.heap.size #[.string x.name,.int .i64 x.size,.bool x.opn] 26 from fun w2 hb=>kx.up hb)
 clear hV hD he hd h1 h2 hlv hfl hx1 kf kx
 go_enter Tryz.func63,Tryz.ntmps63
 go_wp2_with fail
 rw[<- hwx]
 clear hwx
 go_wp2_with (first
  | (go_at_call 110;(with_reducible refine(IN _ b2).mono ?_);rintro e w4 ⟨v',F',rfl,r1,r2,r3⟩;have R:=zh (And.intro r1 (And.intro r2 r3));clear r1 r2 r3)
  | (go_at_call 108;(with_reducible refine(BN _ b1).mono ?_);rintro e w2 ⟨⟨r,rfl⟩,hb⟩;have b2:Below wx.heap.size wx w2:=yac b1 hb;have kc0:w2.cell? ⟨w.heap.size,0,none⟩=some (.string x.name):=(HK.out w2 b2).cell 0;have kc1:w2.cell? ⟨w.heap.size,1,none⟩=some (.int .i64 x.size):=(HK.out w2 b2).cell 1;have kc2:w2.cell? ⟨w.heap.size,2,none⟩=some (.bool x.opn):=(HK.out w2 b2).cell 2;clear hb)
  | (go_at_call 42;(with_reducible refine(NM _).mono ?_);rintro e w1 ⟨rfl,b1⟩))
 go_ret
 exact⟨v',F',rfl,R.out⟩
def dimK (d:DimD):List UInt8:=bl d.name
def addDimR (s:List GroupD) (P:List UInt8) (d:DimD):Int×List GroupD:=
 if nameB (bl d.name)=false then (6,s) else match s.findIdx? (fun x=>bl x.path==P) with
 | none=>(31,s)
 | some g=>match s[g]? with
  | none=>(31,s)
  | some x=>if (x.dims.findIdx? fun y=>bl y.name==bl d.name).isSome=true then (32,s) else if mentionsB s P (bl d.name)=true then (33,s) else (0,s.set g ⟨x.path,insB dimK d x.dims,x.vars,x.attrs⟩)
def ixI (o:Option Nat):Int:=match o with
 | none=>-1
 | some g=>(g:Int)
def chC (v:Value) (kind:Int) (P N M:ByteArray) (z:Int) (d:DimD) (V A:List Value) (g:Option Nat):Array Value:=#[v,.int .i64 kind,.string P,.string N,.string M,.int .i64 z,.string d.name,.int .i64 d.size,.bool d.opn,
 V.getD 0 undef,V.getD 1 undef,V.getD 2 undef,V.getD 3 undef,V.getD 4 undef,V.getD 5 undef,V.getD 6 undef,V.getD 7 undef,A.getD 0 undef,A.getD 1 undef,A.getD 2 undef,A.getD 3 undef,.int .i64 (ixI g)]
def RuleQ (X B:Nat) (C:Value->Array Value) (w:World) (r:Int×List GroupD) (F:Nat->Prop) (e:Ending) (w':World):Prop:=e=.returned (.int .i64 r.1)/\∃ v F',DO kGroupO 4 55 w' F' v r.2/\Bk w' X (C v) 69/\Below B w w'/\∀ b,F' b->F b\/w.heap.size<=b
theorem ynr (X B:Nat) (v:Value) (s:List GroupD) (F:Nat->Prop) (kind:Int) (P N M:ByteArray) (z:Int) (d:DimD) (V A:List Value) (w:World) (hD:DO kGroupO 4 55 w F v s) (hK:Bk w X (chC v kind P N M z d V A (s.findIdx? fun x=>bl x.path==bl P)) 69)
  (hF:∀ b,F b->B<=b/\b≠X) (hB:B<=X) (hs:∀ x ∈ s,x.dims.length<=1500000/\Asc dimK x.dims) (hP:P.size<=4000000000) (hd:kDim w 0 [.string d.name,.int .i64 d.size,.bool d.opn] d) :
  Calls Tryz.prog 22 #[.pointer (some ⟨X,0,none⟩)] w (RuleQ X B (fun v=>chC v kind P N M z d V A (s.findIdx? fun x=>bl x.path==bl P)) w (addDimR s (bl P) d) F):=by
 have hXl:=hK.lt
 have k0:w.cell? ⟨X,0,none⟩=some v:=hK.cell 0
 have k2:w.cell? ⟨X,2,none⟩=some (.string P):=hK.cell 2
 have k6:w.cell? ⟨X,6,none⟩=some (.string d.name):=hK.cell 6
 have k7:w.cell? ⟨X,7,none⟩=some (.int .i64 d.size):=hK.cell 7
 have k8:w.cell? ⟨X,8,none⟩=some (.bool d.opn):=hK.cell 8
 have k21:w.cell? ⟨X,21,none⟩=some (.int .i64 (ixI (s.findIdx? fun x=>bl x.path==bl P))):=hK.cell 21
 have VN:=fun w'=>yd4 d.name hd.2.1 w'
 have KEEP:=zh (show ∀ r w',Below w.heap.size w w'->RuleQ X B (fun v=>chC v kind P N M z d V A (s.findIdx? fun x=>bl x.path==bl P)) w (r,s) F (.returned (.int .i64 r)) w' from fun r w' hb=>⟨rfl,v,F,hD.more ya0 hb,hK.up hb,hb.mono (by omega),fun b h=>.inl h⟩)
 have kV:∀ w',Below w.heap.size w w'->VSchema w' w'.heap.size v s:=fun w' hb=>(hD.more ya0 hb).schema
 have kb1:Below w.heap.size w (w.alloc (.cells #[.string d.name,.int .i64 d.size,.bool d.opn] 26)):=yaa (Below.refl _ _) _
 unfold addDimR
 cases hn:nameB (bl d.name)
 ·rw[if_pos rfl]
  rw[hn] at VN
  have KE:=zh (KEEP.out 6)
  clear hD hK hF hs kV KEEP hn hd
  go_enter Tryz.func22,Tryz.ntmps22
  go_wp2_with (go_at_call 36;(with_reducible refine(VN _).mono ?_);rintro e w2 ⟨rfl,rfl⟩)
  go_ret
  exact KE.out _ kb1
 rw[if_neg (by decide)]
 rw[hn] at VN
 cases hg:s.findIdx? (fun x=>bl x.path==bl P) with
 | none=>
  rw[hg] at k21 KEEP
  have k21:w.cell? ⟨X,21,none⟩=some (.int .i64 (-1)):=k21
  have KE:=zh (KEEP.out 31)
  clear hD hK hF hs kV KEEP hn hd hg
  go_enter Tryz.func22,Tryz.ntmps22
  go_wp2_with (go_at_call 36;(with_reducible refine(VN _).mono ?_);rintro e w2 ⟨rfl,rfl⟩)
  go_ret
  exact KE.out _ kb1
 | some g=>
  rw[hg] at k21 KEEP hK
  have k21:w.cell? ⟨X,21,none⟩=some (.int .i64 (g:Int)):=k21
  have hgl:g<s.length:=(List.findIdx?_eq_some_iff_findIdx_eq.1 hg).1
  have hgi:(g:Int)<(s.length:Int):=by omega
  obtain⟨x,hx⟩:∃ x,s[g]?=some x:=⟨_,List.getElem?_eq_getElem hgl⟩
  obtain⟨G,cap,vs,Fe,rfl,hvl,hPx,hGF,hFe,hcells,hfield⟩:=hD.field ya0 hx
  obtain⟨v1,v2,v3,F1,rfl,hD1,hF1,hdims⟩:=hPx.dims
  obtain⟨hx1,hx2⟩:=hs x (List.mem_of_getElem? hx)
  have hXG:X≠G:=fun e=>(hF G hGF.1).2 e.symm
  have c0:=fun j u h=>(hcells j u h).1
  have HR:=zh (show ∀ w',Below w.heap.size w w'->w'.rangeAt G (g*4) [.string x.path,v1,v2,v3] from fun w' hb=>yad (fun j u h=>c0 j u h) hb hGF.2)
  obtain⟨w1,hw1⟩:∃ w1,w1=w.alloc (.cells #[.string d.name,.int .i64 d.size,.bool d.opn] 26):=⟨_,rfl⟩
  rw[<- hw1] at kb1
  have kd:Bk w1 w.heap.size #[.string d.name,.int .i64 d.size,.bool d.opn] 26:=by rw[hw1];exact Bk.new w _ _
  have HB1:=zh (show ∀ w',Below w1.heap.size w1 w'->Below w.heap.size w w' from fun w' hb=>kb1.trans (hb.mono kb1.size))
  have HS:=zh (show ∀ w',Below w1.heap.size w1 w'->(fun w'=>w'.cell? ⟨X,0,none⟩=some (.slice (some ⟨G,0,none⟩) s.length cap)/\w'.cell? ⟨X,21,none⟩=some (.int .i64 (g:Int))/\w'.rangeAt G (g*4) [.string x.path,v1,v2,v3]/\w'.cell? ⟨w.heap.size,0,none⟩=some (.string d.name)/\Below w1.heap.size w1 w') w' from fun w' hb=>⟨(hK.up (HB1.out w' hb)).cell 0,(hK.up (HB1.out w' hb)).cell 21,HR.out w' (HB1.out w' hb),(kd.up hb).cell 0,hb⟩)
  have HT:=zh (show ∀ w',Below w1.heap.size w1 w'->(fun w'=>w'.cell? ⟨X,0,none⟩=some (.slice (some ⟨G,0,none⟩) s.length cap)/\w'.cell? ⟨X,21,none⟩=some (.int .i64 (g:Int))/\w'.cell? ⟨G,g*4+1,none⟩=some v1/\w'.rangeAt w.heap.size 0 [.string d.name,.int .i64 d.size,.bool d.opn]) w' from fun w' hb=>⟨(hK.up (HB1.out w' hb)).cell 0,(hK.up (HB1.out w' hb)).cell 21,HR.out w' (HB1.out w' hb) 1 _ rfl,ybu (kd.up hb)⟩)
  have kq0:w1.cell? ⟨w.heap.size,0,none⟩=some (.string d.name):=kd.cell 0
  have k21':w1.cell? ⟨X,21,none⟩=some (.int .i64 (g:Int)):=(hK.up kb1).cell 21
  have hDM:=fun w' (hb:Below w1.heap.size w1 w')=>ykh x.path v1 v2 v3 x.dims d.name w' ((hD1.more (yas yax) (HB1.out w' hb)).vl (fun _ _ _ _ h=>h.1) ya2 hD1.cut)
  have hMN:=fun w' (hb:Below w1.heap.size w1 w')=>yjx X (some ⟨G,0,none⟩) s.length cap s P d.name w' (kV w' (HB1.out w' hb)) rfl hP ((hK.up (HB1.out w' hb)).cell 0) ((hK.up (HB1.out w' hb)).cell 2)
  simp only[hx]
  cases hdx:(x.dims.findIdx? fun y=>bl y.name==bl d.name) with
  | some q=>
   rw[Option.isSome_some,if_pos rfl]
   rw[hdx] at hDM
   simp only[ixV] at hDM
   have DM:=hDM
   have KE:=zh (KEEP.out 32)
   clear hD hK hF hs kV KEEP hn hd hg hMN hDM hdims hfield hcells HR HT hPx hD1 hF1 hFe c0 hx1 hx2 hdx kd
   go_enter Tryz.func22,Tryz.ntmps22
   go_upto_region 6 with (go_at_call 36;(with_reducible refine(VN _).mono ?_);rintro e w2 ⟨rfl,rfl⟩)
   rw[<- hw1]
   clear hw1
   ·have hHB:=HB1
    refine wp_region_noPanic ?_
    refine xStartH (E:=[]) (S:=fun w'=>w'.cell? ⟨X,0,none⟩=some (.slice (some ⟨G,0,none⟩) s.length cap)/\w'.cell? ⟨X,21,none⟩=some (.int .i64 (g:Int))/\w'.rangeAt G (g*4) [.string x.path,v1,v2,v3]/\w'.cell? ⟨w.heap.size,0,none⟩=some (.string d.name)/\Below w1.heap.size w1 w') (by kernel_rfl) (HS.out _ (Below.drew (Below.refl _ _))) fun hHeld=>?_
    refine xVal 0 21 (.pointer (some ⟨X,0,none⟩)) hHeld (by kernel_rfl) (fun w' hSw=>?_) ?_
    ·simp only[List.getElem?_toArray,List.getElem?_cons_zero,Option.map_some,Option.some.injEq];first|(go_simp;done)|(with_reducible rfl)|(go_simp;omega)|(go_simp;go_show;fail)
    simp only[Act.put,zB,zC,zD]
    refine xVal 4 25 (.pointer (some ⟨w.heap.size,0,none⟩)) hHeld (by kernel_rfl) (fun w' hSw=>?_) ?_
    ·simp only[zE,zF,zG,zH,zI];first|(go_simp;done)|(with_reducible rfl)|(go_simp;omega)
    simp only[Act.put,zB,zC,zD]
    refine xVal 5 26 (.string d.name) hHeld (by kernel_rfl) (fun w' hSw=>?_) ?_
    ·have q1:=hSw.2.2.2.1;simp only[zE,zF,zG,zH,zI];first|(go_simp;done)|(with_reducible rfl)|(go_simp;omega)
    simp only[Act.put,zB,zC,zD]
    refine xEnter 1 22 59 #[.pointer (some ⟨X,0,none⟩)] (by kernel_rfl) (by kernel_rfl) (by kernel_rfl) (ygh X G s.length cap g _ hHeld.1 hHeld.2.1 hgl) ?_
    rintro e w1 ⟨rfl,k1,rfl⟩
    refine⟨_,rfl,HS.out _ (yab hHeld.2.2.2.2 _),fun hHeld=>?_⟩
    simp only[Act.put,zB,zC,zD]
    refine xVal 2 23 (.pointer (some ⟨G,g*4,none⟩)) hHeld (by kernel_rfl) (fun w' hSw=>?_) ?_
    ·simp only[zE,zF,zG,zH,zI];first|(go_simp;done)|(with_reducible rfl)|(go_simp;omega)
    simp only[Act.put,zB,zC,zD]
    refine xLoad 3 24 55 (.tmp 23) G (g*4) [.string x.path,v1,v2,v3] hHeld (by kernel_rfl) (by kernel_rfl) rfl (fun w' hw'=>hw'.2.2.1) Tryz.underlying55 rfl (by kernel_rfl) ?_
    simp only[Act.put,zB,zC,zD]
    refine xEnter 6 27 32 #[.agg #[.string x.path,v1,v2,v3],.string d.name] (by kernel_rfl) (by kernel_rfl) (by kernel_rfl) (DM _ hHeld.2.2.2.2) ?_
    rintro e w6 ⟨rfl,hb6⟩
    refine⟨_,rfl,HS.out _ (yac hHeld.2.2.2.2 hb6),fun hHeld=>?_⟩
    simp only[Act.put,zB,zC,zD]
    refine xVal 7 28 (.bool true) hHeld (by kernel_rfl) (fun w' hSw=>?_) ?_
    ·simp only[zE,zF,zG,zH,zI];first|(go_simp;done)|(with_reducible rfl)|(go_simp;omega)
    simp only[Act.put,zB,zC,zD]
    refine xVal 8 20 (.bool true) hHeld (by kernel_rfl) (fun w' hSw=>?_) ?_
    ·simp only[zE,zF,zG,zH,zI];first|(go_simp;done)|(with_reducible rfl)|(go_simp;omega)
    simp only[Act.put,zB,zC,zD]
    refine xDone (by kernel_rfl) (tNoP ?_)
    have KF:=zh (KE.out _ (HB1.out _ hHeld.2.2.2.2))
    clear hHeld KE HS
    go_wp2
    go_ret
    exact KF.out
  | none=>
   rw[if_neg (by decide)]
   rw[hdx] at hDM
   simp only[ixV] at hDM
   have DM:=hDM
   cases hm:mentionsB s (bl P) (bl d.name)
   ·rw[if_neg (by decide)]
    rw[hm] at hMN
    have PUT:=fun w' (hb:Below w1.heap.size w1 w')=>yqu v1 x.dims F1 (fun _=>False) d (insAt dimK (dimK d) x.dims) w' (hD1.more (yas yax) (HB1.out w' hb)) hx1 ⟨hd,fun _ h=>h⟩ (fun _ h=>h.elim) (yq7 _ _ _) (fun k y h1 h2=>ymj (key:=dimK) h1 h2) (fun k y h1 h2=>ymv (key:=dimK) hx2 h1 h2)
    have hoF1:∀ b,v1.ownBlock=some b->F1 b:=fun b hb=>by
     obtain⟨_,_,_,_,h3,_⟩:=hD1
     exact(h3 b hb).1
    have HW:=zh (show ∀ w',Below w1.heap.size w1 w'->∀ (w8:World) (v1':Value) (F8:Nat->Prop),DO (flt kDim) 3 26 w8 F8 v1' (insB dimK d x.dims)->w'.grownBy w8 v1.ownBlock->(∀ b,F8 b->F1 b\/False\/w'.heap.size<=b)->
      w8.cell? ⟨X,0,none⟩=some (.slice (some ⟨G,0,none⟩) s.length cap)/\w8.cell? ⟨X,21,none⟩=some (.int .i64 (g:Int))/\w8.cell? ⟨G,g*4+1,none⟩=some v1/\w8.rangeAt w.heap.size 0 [.string d.name,.int .i64 d.size,.bool d.opn]/\w8.frozen? ⟨G,g*4+1,none⟩=false/\
       RuleQ X B (fun v=>chC v kind P N M z d V A (some g)) w (0,s.set g ⟨x.path,insB dimK d x.dims,x.vars,x.attrs⟩) F (.returned (.int .i64 0)) (w8.setCell ⟨G,g*4+1,none⟩ v1') from by
     intro w' hb w8 v1' F8 d1 d2 d3
     have hbw:=HB1.out w' hb
     have hz8:w.heap.size<=w8.heap.size:=Nat.le_trans hbw.size d2.size
     have hz1:=hb.size
     have hk1:=kd.lt
     have same:∀ b,b<w.heap.size->¬F1 b->w8.heap[b]?=w.heap[b]?:=fun b hb hn=>(d2.block b (Nat.lt_of_lt_of_le hb hbw.size) (fun e=>hn (hoF1 b e.symm))).trans (hbw.block b hb)
     have sX:w8.heap[X]?=w.heap[X]?:=same X hXl fun h=>(hF X (hFe X (hF1 X h)).1).2 rfl
     have sG:w8.heap[G]?=w.heap[G]?:=same G hGF.2 fun h=>(hFe G (hF1 G h)).2 rfl
     have sD:w8.heap[w.heap.size]?=w'.heap[w.heap.size]?:=d2.block _ (by omega) fun e=>by
      have:=hD1.lt _ (hoF1 _ e.symm)
      omega
     have hK8:Bk w8 X (chC (.slice (some ⟨G,0,none⟩) s.length cap) kind P N M z d V A (some g)) 69:=sX.trans hK
     have hd8:Bk w8 w.heap.size #[.string d.name,.int .i64 d.size,.bool d.opn] 26:=sD.trans (kd.up hb)
     refine⟨hK8.cell 0,hK8.cell 21,(World.cell?_of_block sG).trans (c0 1 _ rfl),ybu hd8,(World.frozen?_of_block sG).trans (hcells 1 _ rfl).2,rfl,_,_,hfield w8 1 v1' ⟨x.path,insB dimK d x.dims,x.vars,x.attrs⟩ _ (by decide) hz8 (fun b hb hn=>same b hb fun h=>hn (hF1 b h)) (hdims w8 v1' F8 _ hz8 same d1 fun b h=>?_) (fun b h=>?_),(yae _ _ _ _ hXG).trans hK8,?_,fun b h=>?_⟩
     ·rcases d3 b h with h|h|h
      ·exact .inl h
      ·exact h.elim
      ·exact .inr (Nat.le_trans hbw.size h)
     ·rcases h with h|h
      ·exact .inl h
      ·exact .inr h.1
     ·have hBG:=(hF G hGF.1).1
      refine Below.setCell (p:=⟨G,g*4+1,none⟩) ⟨d2.os.trans hbw.os,d2.tape.trans hbw.tape,d2.output.trans hbw.output,hz8,fun b hb=>same b (by omega) fun h=>?_⟩ hBG _
      have:=(hF b (hFe b (hF1 b h)).1).1
      omega
     ·rcases h with h|h
      ·exact .inl h
      ·exact .inr h.1)
    have MN:=hMN
    clear hD hK hF hs kV KEEP hn hd hg hMN hDM hdims hfield hcells HR hPx hD1 hF1 hFe c0 hx1 hx2 hdx kd hoF1 hm
    go_enter Tryz.func22,Tryz.ntmps22
    go_upto_region 6 with (go_at_call 36;(with_reducible refine(VN _).mono ?_);rintro e w2 ⟨rfl,rfl⟩)
    rw[<- hw1]
    clear hw1
    refine wp_region_noPanic ?_
    refine xStartH (E:=[]) (S:=fun w'=>w'.cell? ⟨X,0,none⟩=some (.slice (some ⟨G,0,none⟩) s.length cap)/\w'.cell? ⟨X,21,none⟩=some (.int .i64 (g:Int))/\w'.rangeAt G (g*4) [.string x.path,v1,v2,v3]/\w'.cell? ⟨w.heap.size,0,none⟩=some (.string d.name)/\Below w1.heap.size w1 w') (by kernel_rfl) (HS.out _ (Below.drew (Below.refl _ _))) fun hHeld=>?_
    refine xVal 0 21 (.pointer (some ⟨X,0,none⟩)) hHeld (by kernel_rfl) (fun w' hSw=>?_) ?_
    ·simp only[List.getElem?_toArray,List.getElem?_cons_zero,Option.map_some,Option.some.injEq];first|(go_simp;done)|(with_reducible rfl)|(go_simp;omega)|(go_simp;go_show;fail)
    simp only[Act.put,zB,zC,zD]
    refine xVal 4 25 (.pointer (some ⟨w.heap.size,0,none⟩)) hHeld (by kernel_rfl) (fun w' hSw=>?_) ?_
    ·simp only[zE,zF,zG,zH,zI];first|(go_simp;done)|(with_reducible rfl)|(go_simp;omega)
    simp only[Act.put,zB,zC,zD]
    refine xVal 5 26 (.string d.name) hHeld (by kernel_rfl) (fun w' hSw=>?_) ?_
    ·have q1:=hSw.2.2.2.1;simp only[zE,zF,zG,zH,zI];first|(go_simp;done)|(with_reducible rfl)|(go_simp;omega)
    simp only[Act.put,zB,zC,zD]
    refine xEnter 1 22 59 #[.pointer (some ⟨X,0,none⟩)] (by kernel_rfl) (by kernel_rfl) (by kernel_rfl) (ygh X G s.length cap g _ hHeld.1 hHeld.2.1 hgl) ?_
    rintro e w1 ⟨rfl,k1,rfl⟩
    refine⟨_,rfl,HS.out _ (yab hHeld.2.2.2.2 _),fun hHeld=>?_⟩
    simp only[Act.put,zB,zC,zD]
    refine xVal 2 23 (.pointer (some ⟨G,g*4,none⟩)) hHeld (by kernel_rfl) (fun w' hSw=>?_) ?_
    ·simp only[zE,zF,zG,zH,zI];first|(go_simp;done)|(with_reducible rfl)|(go_simp;omega)
    simp only[Act.put,zB,zC,zD]
    refine xLoad 3 24 55 (.tmp 23) G (g*4) [.string x.path,v1,v2,v3] hHeld (by kernel_rfl) (by kernel_rfl) rfl (fun w' hw'=>hw'.2.2.1) Tryz.underlying55 rfl (by kernel_rfl) ?_
    simp only[Act.put,zB,zC,zD]
    refine xEnter 6 27 32 #[.agg #[.string x.path,v1,v2,v3],.string d.name] (by kernel_rfl) (by kernel_rfl) (by kernel_rfl) (DM _ hHeld.2.2.2.2) ?_
    rintro e w6 ⟨rfl,hb6⟩
    refine⟨_,rfl,HS.out _ (yac hHeld.2.2.2.2 hb6),fun hHeld=>?_⟩
    simp only[Act.put,zB,zC,zD]
    refine xVal 7 28 (.bool false) hHeld (by kernel_rfl) (fun w' hSw=>?_) ?_
    ·simp only[zE,zF,zG,zH,zI];first|(go_simp;done)|(with_reducible rfl)|(go_simp;omega)
    simp only[Act.put,zB,zC,zD]
    refine xVal 8 20 (.bool false) hHeld (by kernel_rfl) (fun w' hSw=>?_) ?_
    ·simp only[zE,zF,zG,zH,zI];first|(go_simp;done)|(with_reducible rfl)|(go_simp;omega)
    simp only[Act.put,zB,zC,zD]
    refine xDone (by kernel_rfl) (tNoP ?_)
    have b4:=hHeld.2.2.2.2
    have h40:=hHeld.2.2.2.1
    clear hHeld HS
    go_upto_region 10 with (go_at_call 62;(with_reducible refine(MN _ b4).mono ?_);rintro e w5 ⟨rfl,hb5⟩;have b5:=yac b4 hb5;clear hb5 h40)
    refine wp_region_noPanic ?_
    refine xStartH (E:=[9,10,11]) (S:=fun w'=>w'.cell? ⟨X,0,none⟩=some (.slice (some ⟨G,0,none⟩) s.length cap)/\w'.cell? ⟨X,21,none⟩=some (.int .i64 (g:Int))/\w'.cell? ⟨G,g*4+1,none⟩=some v1/\w'.rangeAt w.heap.size 0 [.string d.name,.int .i64 d.size,.bool d.opn]) (by kernel_rfl) (HT.out _ (Below.drew b5)) fun hHeld=>?_
    refine xVal 0 34 (.pointer (some ⟨X,0,none⟩)) hHeld (by kernel_rfl) (fun w' hSw=>?_) ?_
    ·simp only[List.getElem?_toArray,List.getElem?_cons_zero,Option.map_some,Option.some.injEq];first|(go_simp;done)|(with_reducible rfl)|(go_simp;omega)|(go_simp;go_show;fail)
    simp only[Act.put,zB,zC,zD]
    refine xVal 2 36 (.pointer (some ⟨X,0,none⟩)) hHeld (by kernel_rfl) (fun w' hSw=>?_) ?_
    ·simp only[zE,zF,zG,zH,zI];first|(go_simp;done)|(with_reducible rfl)|(go_simp;omega)
    simp only[Act.put,zB,zC,zD]
    refine xLoad 7 41 26 (.tmp 3) w.heap.size 0 [.string d.name,.int .i64 d.size,.bool d.opn] hHeld (by kernel_rfl) (by kernel_rfl) rfl (fun w' hw'=>hw'.2.2.2) Tryz.underlying26 rfl (by kernel_rfl) ?_
    simp only[Act.put,zB,zC,zD]
    refine xEnter 1 35 59 #[.pointer (some ⟨X,0,none⟩)] (by kernel_rfl) (by kernel_rfl) (by kernel_rfl) (ygh X G s.length cap g _ hHeld.1 hHeld.2.1 hgl) ?_
    rintro e w1 ⟨rfl,k1,rfl⟩
    refine⟨_,rfl,HT.out _ (yab (Below.drew b5) _),fun hHeld=>?_⟩
    simp only[Act.put,zB,zC,zD]
    refine xEnter 3 37 59 #[.pointer (some ⟨X,0,none⟩)] (by kernel_rfl) (by kernel_rfl) (by kernel_rfl) (ygh X G s.length cap g _ hHeld.1 hHeld.2.1 hgl) ?_
    rintro e w3 ⟨rfl,k3,rfl⟩
    refine⟨_,rfl,HT.out _ (yab (yab (Below.drew b5) _) _),fun hHeld=>?_⟩
    simp only[Act.put,zB,zC,zD]
    refine xVal 4 38 (.pointer (some ⟨G,g*4,none⟩)) hHeld (by kernel_rfl) (fun w' hSw=>?_) ?_
    ·simp only[zE,zF,zG,zH,zI];first|(go_simp;done)|(with_reducible rfl)|(go_simp;omega)
    simp only[Act.put,zB,zC,zD]
    refine xVal 5 39 (.pointer (some ⟨G,g*4+1,none⟩)) hHeld (by kernel_rfl) (fun w' hSw=>?_) ?_
    ·simp only[zE,zF,zG,zH,zI];first|(go_simp;done)|(with_reducible rfl)|(go_simp;omega)
    simp only[Act.put,zB,zC,zD]
    refine xVal 6 40 (v1) hHeld (by kernel_rfl) (fun w' hSw=>?_) ?_
    ·have q1:=hSw.2.2.1;simp only[zE,zF,zG,zH,zI];first|(go_simp;done)|(with_reducible rfl)|(go_simp;omega)
    simp only[Act.put,zB,zC,zD]
    refine xEnter 8 42 63 #[v1,.agg #[.string d.name,.int .i64 d.size,.bool d.opn],.func (.func 42) #[] #[]] (by kernel_rfl) (by kernel_rfl) (by kernel_rfl) (PUT _ (yab (yab (Below.drew b5) _) _)) ?_
    rintro e w8 ⟨v1',F8,rfl,d1,d2,d3⟩
    obtain⟨A8,c8,rfl⟩:=(show DO (flt kDim) 3 26 w8 F8 v1' (insB dimK d x.dims) from d1).val
    have hW8:=HW.out _ (yab (yab (Below.drew b5) k1) k3) w8 (.slice A8 (insB dimK d x.dims).length c8) F8 d1 d2 d3
    clear d1 d2 d3
    generalize (insB dimK d x.dims).length=n8 at *
    refine⟨_,rfl,⟨hW8.1,hW8.2.1,hW8.2.2.1,hW8.2.2.2.1⟩,fun hHeld=>?_⟩
    simp only[Act.put,zB,zC,zD]
    refine xPure 9 43 (.pointer (some ⟨G,g*4,none⟩)) (by kernel_rfl) (fun w'=>?_) ?_
    ·simp only[zE,zF,zG,zH,zI];first|(go_simp;done)|(with_reducible rfl)|(go_simp;omega)
    simp only[Act.put,zB,zC,zD]
    refine xPure 10 44 (.pointer (some ⟨G,g*4+1,none⟩)) (by kernel_rfl) (fun w'=>?_) ?_
    ·simp only[zE,zF,zG,zH,zI];first|(go_simp;done)|(with_reducible rfl)|(go_simp;omega)
    simp only[Act.put,zB,zC,zD]
    have q1:=hW8.2.2.1
    have q2:=hW8.2.2.2.2.1
    refine xStore 11 (w8.setCell ⟨G,g*4+1,none⟩ (.slice A8 n8 c8)) (by kernel_rfl) (by kernel_rfl) ?_ (fun h=>absurd (by decide) h) ?_
    ·simp only[zE,zF,zG,zH,zI];first|(go_simp;done)|(with_reducible rfl)|(go_simp;omega)
    have FIN:=zh hW8.2.2.2.2.2
    refine xDone (by kernel_rfl) (tNoP ?_)
    clear hHeld hW8 q1 q2 HT HW PUT MN DM
    go_wp2
    go_ret
    exact FIN.out
   ·rw[if_pos rfl]
    rw[hm] at hMN
    have MN:=hMN
    have KE:=zh (KEEP.out 33)
    clear hD hK hF hs kV KEEP hn hd hg hMN hDM hdims hfield hcells HR HT hPx hD1 hF1 hFe c0 hx1 hx2 hdx kd hm
    go_enter Tryz.func22,Tryz.ntmps22
    go_upto_region 6 with (go_at_call 36;(with_reducible refine(VN _).mono ?_);rintro e w2 ⟨rfl,rfl⟩)
    rw[<- hw1]
    clear hw1
    refine wp_region_noPanic ?_
    refine xStartH (E:=[]) (S:=fun w'=>w'.cell? ⟨X,0,none⟩=some (.slice (some ⟨G,0,none⟩) s.length cap)/\w'.cell? ⟨X,21,none⟩=some (.int .i64 (g:Int))/\w'.rangeAt G (g*4) [.string x.path,v1,v2,v3]/\w'.cell? ⟨w.heap.size,0,none⟩=some (.string d.name)/\Below w1.heap.size w1 w') (by kernel_rfl) (HS.out _ (Below.drew (Below.refl _ _))) fun hHeld=>?_
    refine xVal 0 21 (.pointer (some ⟨X,0,none⟩)) hHeld (by kernel_rfl) (fun w' hSw=>?_) ?_
    ·simp only[List.getElem?_toArray,List.getElem?_cons_zero,Option.map_some,Option.some.injEq];first|(go_simp;done)|(with_reducible rfl)|(go_simp;omega)|(go_simp;go_show;fail)
    simp only[Act.put,zB,zC,zD]
    refine xVal 4 25 (.pointer (some ⟨w.heap.size,0,none⟩)) hHeld (by kernel_rfl) (fun w' hSw=>?_) ?_
    ·simp only[zE,zF,zG,zH,zI];first|(go_simp;done)|(with_reducible rfl)|(go_simp;omega)
    simp only[Act.put,zB,zC,zD]
    refine xVal 5 26 (.string d.name) hHeld (by kernel_rfl) (fun w' hSw=>?_) ?_
    ·have q1:=hSw.2.2.2.1;simp only[zE,zF,zG,zH,zI];first|(go_simp;done)|(with_reducible rfl)|(go_simp;omega)
    simp only[Act.put,zB,zC,zD]
    refine xEnter 1 22 59 #[.pointer (some ⟨X,0,none⟩)] (by kernel_rfl) (by kernel_rfl) (by kernel_rfl) (ygh X G s.length cap g _ hHeld.1 hHeld.2.1 hgl) ?_
    rintro e w1 ⟨rfl,k1,rfl⟩
    refine⟨_,rfl,HS.out _ (yab hHeld.2.2.2.2 _),fun hHeld=>?_⟩
    simp only[Act.put,zB,zC,zD]
    refine xVal 2 23 (.pointer (some ⟨G,g*4,none⟩)) hHeld (by kernel_rfl) (fun w' hSw=>?_) ?_
    ·simp only[zE,zF,zG,zH,zI];first|(go_simp;done)|(with_reducible rfl)|(go_simp;omega)
    simp only[Act.put,zB,zC,zD]
    refine xLoad 3 24 55 (.tmp 23) G (g*4) [.string x.path,v1,v2,v3] hHeld (by kernel_rfl) (by kernel_rfl) rfl (fun w' hw'=>hw'.2.2.1) Tryz.underlying55 rfl (by kernel_rfl) ?_
    simp only[Act.put,zB,zC,zD]
    refine xEnter 6 27 32 #[.agg #[.string x.path,v1,v2,v3],.string d.name] (by kernel_rfl) (by kernel_rfl) (by kernel_rfl) (DM _ hHeld.2.2.2.2) ?_
    rintro e w6 ⟨rfl,hb6⟩
    refine⟨_,rfl,HS.out _ (yac hHeld.2.2.2.2 hb6),fun hHeld=>?_⟩
    simp only[Act.put,zB,zC,zD]
    refine xVal 7 28 (.bool false) hHeld (by kernel_rfl) (fun w' hSw=>?_) ?_
    ·simp only[zE,zF,zG,zH,zI];first|(go_simp;done)|(with_reducible rfl)|(go_simp;omega)
    simp only[Act.put,zB,zC,zD]
    refine xVal 8 20 (.bool false) hHeld (by kernel_rfl) (fun w' hSw=>?_) ?_
    ·simp only[zE,zF,zG,zH,zI];first|(go_simp;done)|(with_reducible rfl)|(go_simp;omega)
    simp only[Act.put,zB,zC,zD]
    refine xDone (by kernel_rfl) (tNoP ?_)
    have b4:=hHeld.2.2.2.2
    have h40:=hHeld.2.2.2.1
    clear hHeld HS
    go_wp2_with (go_at_call 62;(with_reducible refine(MN _ b4).mono ?_);rintro e w5 ⟨rfl,hb5⟩;have b5:=yac b4 hb5;clear hb5 h40)
    go_ret
    exact KE.out _ (HB1.out _ b5)
def dimLim (d:DimD):Bool:=decide (1024<d.size)
def shapeLim (s:List GroupD) (p:List UInt8) (v:VarD):Bool:=match shapeB s p v with
 | none=>false
 | some l=>decide (l.length<=4)&&decide (4096<cellsB l)
def varLim (s:List GroupD) (kind:Int) (p:List UInt8) (v:VarD):Bool:=shapeLim s p v||(decide (kind=10)&&decide (16<v.attrs.length))
def lenLim (g:GroupD):Bool:=decide (16<g.dims.length)||(decide (24<g.vars.length)||decide (16<g.attrs.length))
def groupLim (s:List GroupD) (kind:Int) (g:GroupD):Bool:=lenLim g||(g.dims.any dimLim||g.vars.any (varLim s kind (bl g.path)))
def limitB (kind:Int) (s:List GroupD):Bool:=decide (16<s.length)||s.any (groupLim s kind)
def checkedB (kind:Int) (s:List GroupD):Int:=if limitB kind s=true then 4 else if validB s=true then 0 else 30
def smallC (s:List GroupD):Prop:=smallS s/\∀ x ∈ s,∀ v ∈ x.vars,v.dims.length<=1500000
theorem range1 {w:World} {b o:Nat} {v:Value} (h:w.cell? ⟨b,o,none⟩=some v):w.rangeAt b o [v]:=fun j u hj=>by
 match j,hj with
 | 0,hj=>injection hj with hj;rw[<- hj];exact h
theorem ygp (X:Nat) (A:Option Addr) (n c:Nat) (xs:List GroupD) (kind:Int) (w:World) (hV:VSchema w w.heap.size (.slice A n c) xs) (hn:xs.length=n) (hs:smallC xs) (k0:w.cell? ⟨X,0,none⟩=some (.slice A n c)) (k1:w.cell? ⟨X,1,none⟩=some (.int .i64 kind)) (hw:Ws w) :
  Calls Tryz.prog 31 #[.pointer (some ⟨X,0,none⟩)] w fun e w'=>e=.returned (.int .i64 (checkedB kind xs))/\Below w.heap.size w w':=by
 have hXl:X<w.heap.size:=World.block_lt_of_cell? _ _ k0
 have nb:(n:Int)<=1500000:=by have:=hs.1.2.1;omega
 have VA0:=fun w2 (hb:Below w.heap.size w w2)=>ycu _ xs w2 ((VL.keeps yah hV hb).lifts yai hb.size) hs.1.1 (hw.up hb)
 obtain⟨R,hR⟩:∃ R,checkedB kind xs=R:=⟨_,rfl⟩
 rw[hR]
 have HR:=zh hR
 have HV:=zh hV
 have HW:=zh hw
 have HS:=zh (And.intro hs hn)
 have HK:=zh (And.intro k0 k1)
 have e0:decide ((16:Int)<(n:Int))=decide (16<xs.length):=by rw[hn];exact decide_eq_decide.2 (by omega)
 obtain⟨L0,hL0⟩:∃ L0,decide (16<xs.length)=L0:=⟨_,rfl⟩
 rw[hL0] at e0
 have HL0:=zh hL0
 clear hV hR hw hs k1 hL0
 go_enter Tryz.func31,Tryz.ntmps31
 go_wp2
 go_loopw [3,25] (fun s3 i wr=>∃ (m:Nat) (L:Bool),m<=n/\i=.int .i64 (m:Int)/\s3=.bool L/\Hid (L=(L0||(xs.take m).any (groupLim xs kind)))/\Hid (Below w.heap.size w wr)) (fun _ i _=>(n - intOf i).toNat)
 case atStart=>exact⟨0,L0,Nat.zero_le _,rfl,rfl,zh (by simp),zh (Below.refl _ _)⟩
 case round=>
  obtain⟨m,L,hm,rfl,rfl,hA,hB⟩:=hrel
  by_cases hmk:m=n
  ·have hX:limitB kind xs=L:=by
    rw[hA.out,List.take_of_length_le (by have:=HS.out.2;omega),<- HL0.out]
    rfl
   have hB1:=zh hB.out
   have k0:wr.cell? ⟨X,0,none⟩=some (.slice A n c):=(hB.out.cell (p:=⟨X,0,none⟩) hXl).trans HK.out.1
   have hR:=HR.out
   unfold checkedB at hR
   rw[hX] at hR
   have VA:=VA0 wr hB.out
   subst hmk
   clear hX HR HV HW HS HK HL0 hA hB VA0
   cases L
   ·rw[if_neg (by decide)] at hR
    cases hv:validB xs
    ·rw[hv,if_neg (by decide)] at hR
     rw[hv] at VA
     subst hR
     clear hv
     go_wp2_with (go_at_call 6;(with_reducible refine VA.mono ?_);rintro e w2 ⟨rfl,hb⟩;have b2:=zh (yac hB1.out hb);clear hb)
     go_ret
     exact⟨rfl,b2.out⟩
    ·rw[hv,if_pos rfl] at hR
     rw[hv] at VA
     subst hR
     clear hv
     go_wp2_with (go_at_call 6;(with_reducible refine VA.mono ?_);rintro e w2 ⟨rfl,hb⟩;have b2:=zh (yac hB1.out hb);clear hb)
     go_ret
     exact⟨rfl,b2.out⟩
   ·rw[if_pos rfl] at hR
    subst hR
    clear VA
    go_wp2
    go_ret
    exact⟨rfl,hB1.out⟩
  ·have hlt:m<n:=by omega
   have hi:(m:Int)<(n:Int):=by omega
   obtain⟨x,hx⟩:∃ x,xs[m]?=some x:=⟨_,List.getElem?_eq_getElem (by have:=HS.out.2;omega)⟩
   have hxm:=List.mem_of_getElem? hx
   obtain⟨b0,off,cs,rfl,hb0,_,hr,hp⟩:=HV.out.get hx
   obtain⟨v1,v2,v3,rfl,hpo,l1,l2,l3⟩:=hp
   obtain⟨B1,u1,rfl,_,hu3⟩:=l1.val
   obtain⟨B2,u2,rfl,hu1,hu2⟩:=l2.val
   obtain⟨B3,u3,rfl,_,_⟩:=l3.val
   have hBw:=hB.out
   have e1:wr.cell? ⟨b0,off+m*4,none⟩=some (.string x.path):=(hBw.cell (p:=⟨b0,off+m*4,none⟩) hb0).trans (hr 0 _ rfl)
   have e2:wr.cell? ⟨b0,off+m*4+1,none⟩=some (.slice B1 x.dims.length u1):=(hBw.cell (p:=⟨b0,off+m*4+1,none⟩) hb0).trans (hr 1 _ rfl)
   have e3:wr.cell? ⟨b0,off+m*4+2,none⟩=some (.slice B2 x.vars.length u2):=(hBw.cell (p:=⟨b0,off+m*4+2,none⟩) hb0).trans (hr 2 _ rfl)
   have e4:wr.cell? ⟨b0,off+m*4+3,none⟩=some (.slice B3 x.attrs.length u3):=(hBw.cell (p:=⟨b0,off+m*4+3,none⟩) hb0).trans (hr 3 _ rfl)
   have pb:(x.vars.length:Int)<=1500000:=by have:=HS.out.1.1.2.2 x hxm;omega
   have pd:(x.dims.length:Int)<=9223372036854775807:=by omega
   have HL1:=zh l1
   have HL2:=zh l2
   have HXP:=zh (And.intro (HS.out.1.1.1 x hxm) (HS.out.1.2 x hxm))
   have HA2:=zh (show ∀ L',L'=(L||groupLim xs kind x)->L'=(L0||(xs.take (m+1)).any (groupLim xs kind)) from fun L' h=>by rw[h,hA.out,ye2 hx,Bool.or_assoc])
   have hB1:=zh hB.out
   have k0:wr.cell? ⟨X,0,none⟩=some (.slice (some ⟨b0,off,none⟩) n c):=(hB.out.cell (p:=⟨X,0,none⟩) hXl).trans HK.out.1
   clear hr hx hA l1 l2 l3 hu1 hu2 hu3 hBw hxm HR HL0
   go_upto_region 5 with fail
   have hy1:=yaa (Below.refl wr.heap.size wr) (.cells #[.string x.path,.slice B1 x.dims.length u1,.slice B2 x.vars.length u2,.slice B3 x.attrs.length u3] 55)
   have hy0:=Bk.new wr #[.string x.path,.slice B1 x.dims.length u1,.slice B2 x.vars.length u2,.slice B3 x.attrs.length u3] 55
   generalize hwy:wr.alloc (.cells #[.string x.path,.slice B1 x.dims.length u1,.slice B2 x.vars.length u2,.slice B3 x.attrs.length u3] 55)=wy at *
   clear hwy e1 e2 e3 e4 k0
   have HY:=zh (show Below w.heap.size w wy from hB1.out.trans (hy1.mono hB1.out.size))
   clear hB1 hB hy1
   generalize wr.heap.size=g8 at *
   have HY3:=zh hy0
   have f1:wy.cell? ⟨g8,1,none⟩=some (.slice B1 x.dims.length u1):=hy0.cell 1
   have f2:wy.cell? ⟨g8,2,none⟩=some (.slice B2 x.vars.length u2):=hy0.cell 2
   have f3:wy.cell? ⟨g8,3,none⟩=some (.slice B3 x.attrs.length u3):=hy0.cell 3
   clear hy0
   go_cut [3] (fun s wx=>s=.bool (L||lenLim x)/\wy=wx)
   case first=>
    clear HA2 HL1 HL2 HXP HY HY3 HV HW HS HK VA0
    cases L
    ·by_cases c1:16<x.dims.length
     ·have c1':(16:Int)<(x.dims.length:Int):=by omega
      have hl:lenLim x=true:=by unfold lenLim;simp[c1]
      have hl:=zh hl
      go_wp2
      go_meet
      refine⟨?_,rfl⟩
      rw[hl.out]
      rfl
     ·have c1':¬(16:Int)<(x.dims.length:Int):=by omega
      by_cases c2:24<x.vars.length
      ·have c2':(24:Int)<(x.vars.length:Int):=by omega
       have hl:lenLim x=true:=by unfold lenLim;simp[c2]
       have hl:=zh hl
       go_wp2
       go_meet
       refine⟨?_,rfl⟩
       rw[hl.out]
       rfl
      ·have c2':¬(24:Int)<(x.vars.length:Int):=by omega
       by_cases c3:16<x.attrs.length
       ·have c3':(16:Int)<(x.attrs.length:Int):=by omega
        have hl:lenLim x=true:=by unfold lenLim;simp[c3]
        have hl:=zh hl
        go_wp2
        go_meet
        refine⟨?_,rfl⟩
        rw[hl.out]
        rfl
       ·have c3':¬(16:Int)<(x.attrs.length:Int):=by omega
        have hl:lenLim x=false:=by unfold lenLim;simp[c1,c2,c3]
        have hl:=zh hl
        go_wp2
        go_meet
        refine⟨?_,rfl⟩
        rw[hl.out]
        rfl
    ·go_wp2
     go_meet
     exact⟨rfl,rfl⟩
   case rest=>
    obtain⟨rfl,rfl⟩:=hcut
    obtain⟨L1,hL1⟩:∃ L1,(L||lenLim x)=L1:=⟨_,rfl⟩
    rw[hL1]
    have HA3:=zh (show ∀ L',L'=(L1||(x.dims.any dimLim||x.vars.any (varLim xs kind (bl x.path))))->L'=(L0||(xs.take (m+1)).any (groupLim xs kind)) from fun L' h=>HA2.out L' (by rw[h,<- hL1,Bool.or_assoc];rfl))
    clear HA2 hL1
    go_wp2
    go_loopw [3,51] (fun s3 i wr=>∃ (j:Nat) (L':Bool),j<=x.dims.length/\i=.int .i64 (j:Int)/\s3=.bool L'/\Hid (L'=(L1||(x.dims.take j).any dimLim))/\Hid (Below wy.heap.size wy wr)) (fun _ i _=>(x.dims.length - intOf i).toNat)
    case atStart=>exact⟨0,L1,Nat.zero_le _,rfl,rfl,zh (by simp),zh (Below.refl _ _)⟩
    case round=>
     obtain⟨j,L',hj,rfl,rfl,hC,hD⟩:=hrel
     by_cases hjd:j=x.dims.length
     ·have hL2:L'=(L1||x.dims.any dimLim):=by rw[hC.out,hjd,List.take_of_length_le (Nat.le_refl _)]
      have HA4:=zh (show ∀ L'',L''=(L'||x.vars.any (varLim xs kind (bl x.path)))->L''=(L0||(xs.take (m+1)).any (groupLim xs kind)) from fun L'' h=>HA3.out L'' (by rw[h,hL2,Bool.or_assoc]))
      have h8:=HY3.out.up hD.out
      have f2:wr.cell? ⟨g8,2,none⟩=some (.slice B2 x.vars.length u2):=h8.cell 2
      have HD1:=zh hD.out
      rw[hjd]
      clear hL2 hC hD HA3 HL1 hjd hj f1 f3 h8
      go_wp2
      go_loopw [3,65] (fun s3 i wq=>∃ (j:Nat) (L'':Bool),j<=x.vars.length/\i=.int .i64 (j:Int)/\s3=.bool L''/\Hid (L''=(L'||(x.vars.take j).any (varLim xs kind (bl x.path))))/\Hid (Below wy.heap.size wy wq)) (fun _ i _=>(x.vars.length - intOf i).toNat)
      case atStart=>exact⟨0,L',Nat.zero_le _,rfl,rfl,zh (by simp),HD1⟩
      case round=>
       clear HD1
       obtain⟨j,L'',hj,rfl,rfl,hC,hD⟩:=hrel
       by_cases hjp:j=x.vars.length
       ·have HF:=zh (HA4.out L'' (by rw[hC.out,hjp,List.take_of_length_le (Nat.le_refl _)]))
        have b1:=zh (HY.out.trans (hD.out.mono HY.out.size))
        rw[hjp]
        clear HA4 HL2 hC hD HV HW HK hjp hj HY HY3 HXP HS VA0
        go_wp2
        go_roundw
        case rel=>exact⟨m+1,_,by omega,by go_num,rfl,HF,b1⟩
        case measure=>simp only[intOf];omega
       ·have hjlt:j<x.vars.length:=by omega
        have hji:(j:Int)<(x.vars.length:Int):=by omega
        obtain⟨v,hv⟩:∃ v,x.vars[j]?=some v:=⟨_,List.getElem?_eq_getElem hjlt⟩
        obtain⟨b2,off2,cs,rfl,hb2,_,hr,hp⟩:=HL2.out.get hv
        obtain⟨w1,w2,w3,w4,rfl,_,f1,f2,f3,d1,d2,d3,d4⟩:=hp
        obtain⟨D1,t1,rfl,_,_⟩:=d1.val
        obtain⟨D2,t2,rfl,_,_⟩:=d2.val
        obtain⟨D3,t3,rfl,_,_⟩:=d3.val
        obtain⟨D4,t4,rfl,_,_⟩:=d4.val
        have hBw:Below w.heap.size w wr:=HY.out.trans (hD.out.mono HY.out.size)
        have e0:wr.cell? ⟨b2,off2+j*8,none⟩=some (.string v.name):=(hBw.cell (p:=⟨b2,off2+j*8,none⟩) hb2).trans (hr 0 _ rfl)
        have e1:wr.cell? ⟨b2,off2+j*8+1,none⟩=some (.int .i64 v.typ):=(hBw.cell (p:=⟨b2,off2+j*8+1,none⟩) hb2).trans (hr 1 _ rfl)
        have e2:wr.cell? ⟨b2,off2+j*8+2,none⟩=some (.slice D1 v.dims.length t1):=(hBw.cell (p:=⟨b2,off2+j*8+2,none⟩) hb2).trans (hr 2 _ rfl)
        have e3:wr.cell? ⟨b2,off2+j*8+3,none⟩=some (.slice D2 v.chunks.length t2):=(hBw.cell (p:=⟨b2,off2+j*8+3,none⟩) hb2).trans (hr 3 _ rfl)
        have e4:wr.cell? ⟨b2,off2+j*8+4,none⟩=some (.string v.fill):=(hBw.cell (p:=⟨b2,off2+j*8+4,none⟩) hb2).trans (hr 4 _ rfl)
        have e5:wr.cell? ⟨b2,off2+j*8+5,none⟩=some (.string v.unit):=(hBw.cell (p:=⟨b2,off2+j*8+5,none⟩) hb2).trans (hr 5 _ rfl)
        have e6:wr.cell? ⟨b2,off2+j*8+6,none⟩=some (.slice D3 v.stages.length t3):=(hBw.cell (p:=⟨b2,off2+j*8+6,none⟩) hb2).trans (hr 6 _ rfl)
        have e7:wr.cell? ⟨b2,off2+j*8+7,none⟩=some (.slice D4 v.attrs.length t4):=(hBw.cell (p:=⟨b2,off2+j*8+7,none⟩) hb2).trans (hr 7 _ rfl)
        have k0:wr.cell? ⟨X,0,none⟩=some (.slice (some ⟨b0,off,none⟩) n c):=(hBw.cell (p:=⟨X,0,none⟩) hXl).trans HK.out.1
        have k1:wr.cell? ⟨X,1,none⟩=some (.int .i64 kind):=(hBw.cell (p:=⟨X,1,none⟩) hXl).trans HK.out.2
        have y0:wr.cell? ⟨g8,0,none⟩=some (.string x.path):=(HY3.out.up hD.out).cell 0
        have hvd:=HXP.out.2 v (List.mem_of_getElem? hv)
        have SH0:=fun w5 (hb:Below w.heap.size w w5)=>ygq (.slice (some ⟨b0,off,none⟩) n c) xs x.path v _ (.slice D2 v.chunks.length t2) (.slice D3 v.stages.length t3) (.slice D4 v.attrs.length t4) w5 ((VL.keeps yah HV.out hb).lifts yai hb.size) HXP.out.1 ((VL.keeps yav d1 hb).lifts yao hb.size) (by omega) (HW.out.up hb)
        have HGo:=zh (show ∀ b,b=(L''||varLim xs kind (bl x.path) v)->b=(L'||(x.vars.take (j+1)).any (varLim xs kind (bl x.path))) from fun b h=>by rw[h,hC.out,ye2 hv,Bool.or_assoc])
        have hsi:=fun l (h:shapeB xs (bl x.path) v=some l)=>yma HV.out h
        have hsl:∀ l,shapeB xs (bl x.path) v=some l->l.length=v.dims.length:=fun l h=>yf6 h
        have hs0:varLim xs kind (bl x.path) v=(shapeLim xs (bl x.path) v||(decide (kind=10)&&decide (16<v.attrs.length))):=rfl
        have HD:=zh hD.out
        have HBw:=zh hBw
        clear hr hv d1 d2 d3 d4 f1 f2 f3 HA4 HL2 hC HV hD HY HY3 HK hBw HXP HS HW VA0
        go_wp2_with fail
        have hw1:=yaa (Below.refl wr.heap.size wr) (.cells #[.string v.name,.int .i64 v.typ,.slice D1 v.dims.length t1,.slice D2 v.chunks.length t2,.string v.fill,.string v.unit,.slice D3 v.stages.length t3,.slice D4 v.attrs.length t4] 41)
        have hx0z:(wr.alloc (.cells #[.string v.name,.int .i64 v.typ,.slice D1 v.dims.length t1,.slice D2 v.chunks.length t2,.string v.fill,.string v.unit,.slice D3 v.stages.length t3,.slice D4 v.attrs.length t4] 41)).drew.cell? ⟨X,0,none⟩=some (.slice (some ⟨b0,off,none⟩) n c):=by go_keep
        have hx1z0:(wr.alloc (.cells #[.string v.name,.int .i64 v.typ,.slice D1 v.dims.length t1,.slice D2 v.chunks.length t2,.string v.fill,.string v.unit,.slice D3 v.stages.length t3,.slice D4 v.attrs.length t4] 41)).cell? ⟨X,1,none⟩=some (.int .i64 kind):=by go_keep
        have hy0z:(wr.alloc (.cells #[.string v.name,.int .i64 v.typ,.slice D1 v.dims.length t1,.slice D2 v.chunks.length t2,.string v.fill,.string v.unit,.slice D3 v.stages.length t3,.slice D4 v.attrs.length t4] 41)).drew.cell? ⟨g8,0,none⟩=some (.string x.path):=by go_keep
        have hv2z:(wr.alloc (.cells #[.string v.name,.int .i64 v.typ,.slice D1 v.dims.length t1,.slice D2 v.chunks.length t2,.string v.fill,.string v.unit,.slice D3 v.stages.length t3,.slice D4 v.attrs.length t4] 41)).drew.rangeAt wr.heap.size 0 [.string v.name,.int .i64 v.typ,.slice D1 v.dims.length t1,.slice D2 v.chunks.length t2,.string v.fill,.string v.unit,.slice D3 v.stages.length t3,.slice D4 v.attrs.length t4]:=ybu (show Bk (wr.alloc (.cells #[.string v.name,.int .i64 v.typ,.slice D1 v.dims.length t1,.slice D2 v.chunks.length t2,.string v.fill,.string v.unit,.slice D3 v.stages.length t3,.slice D4 v.attrs.length t4] 41)).drew wr.heap.size #[.string v.name,.int .i64 v.typ,.slice D1 v.dims.length t1,.slice D2 v.chunks.length t2,.string v.fill,.string v.unit,.slice D3 v.stages.length t3,.slice D4 v.attrs.length t4] 41 from Bk.new wr _ _)
        generalize hwz:wr.alloc (.cells #[.string v.name,.int .i64 v.typ,.slice D1 v.dims.length t1,.slice D2 v.chunks.length t2,.string v.fill,.string v.unit,.slice D3 v.stages.length t3,.slice D4 v.attrs.length t4] 41)=wz at *
        clear hwz e0 e1 e2 e3 e4 e5 e6 e7 y0 k0 k1
        have HZ:=zh (show Below wy.heap.size wy wz from HD.out.trans (hw1.mono HD.out.size))
        have HZw:=zh (show Below w.heap.size w wz from HBw.out.trans (hw1.mono HBw.out.size))
        have SH:=fun w5 (hb:Below wz.heap.size wz w5)=>SH0 w5 (HZw.out.trans (hb.mono HZw.out.size))
        have hXz:X<wz.heap.size:=Nat.lt_of_lt_of_le hXl HZw.out.size
        have hx1z:=hx1z0
        clear hw1 HD HBw SH0 HZw
        generalize wr.heap.size=g9 at *
        cases hsh:shapeB xs (bl x.path) v with
        | none=>
         have hsf:shapeLim xs (bl x.path) v=false:=by unfold shapeLim;rw[hsh]
         rw[hsf,Bool.false_or] at hs0
         rw[hsh] at SH
         clear hsi hsl hsh hsf
         refine wp_region_noPanic ?_
         refine wp_region_held_drew (S:=fun w'=>(w'.cell? ⟨X,0,none⟩=some (.slice (some ⟨b0,off,none⟩) n c)/\w'.cell? ⟨g8,0,none⟩=some (.string x.path)/\w'.rangeAt g9 0 [.string v.name,.int .i64 v.typ,.slice D1 v.dims.length t1,.slice D2 v.chunks.length t2,.string v.fill,.string v.unit,.slice D3 v.stages.length t3,.slice D4 v.attrs.length t4])/\Below wz.heap.size wz w') (by kernel_rfl) ⟨⟨hx0z,hy0z,hv2z⟩,Below.drew (Below.refl _ _)⟩ (fun hHeld=>?_)
         refine tRun [(0,70,some (.pointer (some ⟨X,0,none⟩)))] hHeld (by kernel_rfl) ?_
         simp only[runA,Act.put,zB,zC,zD]
         refine tVal 1 71 (.pointer (some ⟨X,0,none⟩)) hHeld (by kernel_rfl) (fun w' hSw=>?_) ?_
         ·simp only[zE,zF,zG,zH,zI];first|(go_simp;done)|(with_reducible rfl)|(go_simp;omega)
         simp only[Act.put,zB,zC,zD]
         refine tVal 2 72 (.pointer (some ⟨X,0,none⟩)) hHeld (by kernel_rfl) (fun w' hSw=>?_) ?_
         ·simp only[zE,zF,zG,zH,zI];first|(go_simp;done)|(with_reducible rfl)|(go_simp;omega)
         simp only[Act.put,zB,zC,zD]
         refine tLoad 3 73 24 (.tmp 72) X 0 [.slice (some ⟨b0,off,none⟩) n c] hHeld (by kernel_rfl) (by kernel_rfl) rfl (fun w' hw'=>range1 hw'.1.1) Tryz.underlying24 rfl (by kernel_rfl) ?_
         simp only[Act.put,zB,zC,zD]
         refine tVal 4 74 (.pointer (some ⟨g8,0,none⟩)) hHeld (by kernel_rfl) (fun w' hSw=>?_) ?_
         ·simp only[zE,zF,zG,zH,zI];first|(go_simp;done)|(with_reducible rfl)|(go_simp;omega)
         simp only[Act.put,zB,zC,zD]
         refine tVal 5 75 (.string x.path) hHeld (by kernel_rfl) (fun w' hSw=>?_) ?_
         ·obtain⟨⟨q1,q2,q3⟩,q4⟩:=hSw;simp only[zE,zF,zG,zH,zI];first|(go_simp;done)|(with_reducible rfl)|(go_simp;omega)
         simp only[Act.put,zB,zC,zD]
         refine tLoad 6 76 41 (.tmp 9) g9 0 [.string v.name,.int .i64 v.typ,.slice D1 v.dims.length t1,.slice D2 v.chunks.length t2,.string v.fill,.string v.unit,.slice D3 v.stages.length t3,.slice D4 v.attrs.length t4] hHeld (by kernel_rfl) (by kernel_rfl) rfl (fun w' hw'=>hw'.1.2.2) Tryz.underlying41 rfl (by kernel_rfl) ?_
         simp only[Act.put,zB,zC,zD]
         refine tEnter 7 77 15 #[.agg #[.slice (some ⟨b0,off,none⟩) n c],.string x.path,.agg #[.string v.name,.int .i64 v.typ,.slice D1 v.dims.length t1,.slice D2 v.chunks.length t2,.string v.fill,.string v.unit,.slice D3 v.stages.length t3,.slice D4 v.attrs.length t4]] (by kernel_rfl) (by kernel_rfl) (by kernel_rfl) (SH _ hHeld.2) ?_
         rintro e w5 ⟨hb,rfl⟩
         refine⟨_,rfl,⟨⟨(hb.cell (p:=⟨X,0,none⟩) (World.block_lt_of_cell? _ _ hHeld.1.1)).trans hHeld.1.1,(hb.cell (p:=⟨g8,0,none⟩) (World.block_lt_of_cell? _ _ hHeld.1.2.1)).trans hHeld.1.2.1,yad hHeld.1.2.2 hb (World.block_lt_of_cell? _ _ (hHeld.1.2.2 0 _ rfl))⟩,yac hHeld.2 hb⟩,fun hHeld=>?_⟩
         clear hb
         simp only[Act.put,zB,zC,zD]
         refine tRun [(8,69,some (.tuple #[.slice none 0 0,.bool false])),(9,78,some (.slice none 0 0)),(10,79,some (.bool false)),(11,10,some (.slice none 0 0)),(12,11,some (.bool false))] hHeld (by kernel_rfl) ?_
         simp only[runA,Act.put,zB,zC,zD]
         refine wpAnyH_done (by kernel_rfl) (tNoP ?_) _
         have bz:=zh hHeld.2
         have kx1:w5.cell? ⟨X,1,none⟩=some (.int .i64 kind):=(hHeld.2.cell (p:=⟨X,1,none⟩) hXz).trans hx1z
         have kv7:w5.cell? ⟨g9,7,none⟩=some (.slice D4 v.attrs.length t4):=hHeld.1.2.2 7 _ rfl
         clear hHeld
         cases L''
         ·by_cases hk:kind=10
          ·by_cases ha:16<v.attrs.length
           ·have ha':(16:Int)<(v.attrs.length:Int):=by omega
            have HG:=zh (HGo.out true (by rw[hs0];simp[hk,ha]))
            clear HGo hs0
            subst hk
            go_wp2_with fail
            go_roundw
            case rel=>exact⟨j+1,_,by omega,by go_num,rfl,HG,zh (HZ.out.trans (bz.out.mono HZ.out.size))⟩
            case measure=>simp only[intOf];omega
           ·have ha':¬(16:Int)<(v.attrs.length:Int):=by omega
            have hab:decide ((16:Int)<(v.attrs.length:Int))=false:=decide_eq_false ha'
            have HG:=zh (HGo.out false (by rw[hs0];simp[ha]))
            clear HGo hs0
            subst hk
            go_wp2_with fail
            go_roundw
            case rel=>exact⟨j+1,_,by omega,by go_num,rfl,HG,zh (HZ.out.trans (bz.out.mono HZ.out.size))⟩
            case measure=>simp only[intOf];omega
          ·have hk':(kind==10)=false:=by rw[beq_eq_false_iff_ne];exact hk
           have HG:=zh (HGo.out false (by rw[hs0];simp[hk]))
           clear HGo hs0
           go_wp2_with fail
           go_roundw
           case rel=>exact⟨j+1,_,by omega,by go_num,rfl,HG,zh (HZ.out.trans (bz.out.mono HZ.out.size))⟩
           case measure=>simp only[intOf];omega
         ·have HG:=zh (HGo.out true (by simp))
          clear HGo hs0
          go_wp2
          go_roundw
          case rel=>exact⟨j+1,_,by omega,by go_num,rfl,HG,zh (HZ.out.trans (bz.out.mono HZ.out.size))⟩
          case measure=>simp only[intOf];omega
        | some l=>
         have hin:=hsi l hsh
         have hll:l.length<=9223372036854775807:=by have:=hsl l hsh;omega
         have hsf:shapeLim xs (bl x.path) v=(decide (l.length<=4)&&decide (4096<cellsB l)):=by unfold shapeLim;rw[hsh]
         rw[hsf] at hs0
         rw[hsh] at SH
         clear hsi hsl hsh hsf
         refine wp_region_noPanic ?_
         refine wp_region_held_drew (S:=fun w'=>(w'.cell? ⟨X,0,none⟩=some (.slice (some ⟨b0,off,none⟩) n c)/\w'.cell? ⟨g8,0,none⟩=some (.string x.path)/\w'.rangeAt g9 0 [.string v.name,.int .i64 v.typ,.slice D1 v.dims.length t1,.slice D2 v.chunks.length t2,.string v.fill,.string v.unit,.slice D3 v.stages.length t3,.slice D4 v.attrs.length t4])/\Below wz.heap.size wz w') (by kernel_rfl) ⟨⟨hx0z,hy0z,hv2z⟩,Below.drew (Below.refl _ _)⟩ (fun hHeld=>?_)
         refine tRun [(0,70,some (.pointer (some ⟨X,0,none⟩)))] hHeld (by kernel_rfl) ?_
         simp only[runA,Act.put,zB,zC,zD]
         refine tVal 1 71 (.pointer (some ⟨X,0,none⟩)) hHeld (by kernel_rfl) (fun w' hSw=>?_) ?_
         ·simp only[zE,zF,zG,zH,zI];first|(go_simp;done)|(with_reducible rfl)|(go_simp;omega)
         simp only[Act.put,zB,zC,zD]
         refine tVal 2 72 (.pointer (some ⟨X,0,none⟩)) hHeld (by kernel_rfl) (fun w' hSw=>?_) ?_
         ·simp only[zE,zF,zG,zH,zI];first|(go_simp;done)|(with_reducible rfl)|(go_simp;omega)
         simp only[Act.put,zB,zC,zD]
         refine tLoad 3 73 24 (.tmp 72) X 0 [.slice (some ⟨b0,off,none⟩) n c] hHeld (by kernel_rfl) (by kernel_rfl) rfl (fun w' hw'=>range1 hw'.1.1) Tryz.underlying24 rfl (by kernel_rfl) ?_
         simp only[Act.put,zB,zC,zD]
         refine tVal 4 74 (.pointer (some ⟨g8,0,none⟩)) hHeld (by kernel_rfl) (fun w' hSw=>?_) ?_
         ·simp only[zE,zF,zG,zH,zI];first|(go_simp;done)|(with_reducible rfl)|(go_simp;omega)
         simp only[Act.put,zB,zC,zD]
         refine tVal 5 75 (.string x.path) hHeld (by kernel_rfl) (fun w' hSw=>?_) ?_
         ·obtain⟨⟨q1,q2,q3⟩,q4⟩:=hSw;simp only[zE,zF,zG,zH,zI];first|(go_simp;done)|(with_reducible rfl)|(go_simp;omega)
         simp only[Act.put,zB,zC,zD]
         refine tLoad 6 76 41 (.tmp 9) g9 0 [.string v.name,.int .i64 v.typ,.slice D1 v.dims.length t1,.slice D2 v.chunks.length t2,.string v.fill,.string v.unit,.slice D3 v.stages.length t3,.slice D4 v.attrs.length t4] hHeld (by kernel_rfl) (by kernel_rfl) rfl (fun w' hw'=>hw'.1.2.2) Tryz.underlying41 rfl (by kernel_rfl) ?_
         simp only[Act.put,zB,zC,zD]
         refine tEnter 7 77 15 #[.agg #[.slice (some ⟨b0,off,none⟩) n c],.string x.path,.agg #[.string v.name,.int .i64 v.typ,.slice D1 v.dims.length t1,.slice D2 v.chunks.length t2,.string v.fill,.string v.unit,.slice D3 v.stages.length t3,.slice D4 v.attrs.length t4]] (by kernel_rfl) (by kernel_rfl) (by kernel_rfl) (SH _ hHeld.2) ?_
         rintro e w5 ⟨hb,vv,rfl,hrow⟩
         have hvl:=zh (RowI.vl hrow hin hll)
         clear hrow
         refine⟨_,rfl,⟨⟨(hb.cell (p:=⟨X,0,none⟩) (World.block_lt_of_cell? _ _ hHeld.1.1)).trans hHeld.1.1,(hb.cell (p:=⟨g8,0,none⟩) (World.block_lt_of_cell? _ _ hHeld.1.2.1)).trans hHeld.1.2.1,yad hHeld.1.2.2 hb (World.block_lt_of_cell? _ _ (hHeld.1.2.2 0 _ rfl))⟩,yac hHeld.2 hb⟩,fun hHeld=>?_⟩
         clear hb
         simp only[Act.put,zB,zC,zD]
         refine tRun [(8,69,some (.tuple #[vv,.bool true])),(9,78,some (vv)),(10,79,some (.bool true)),(11,10,some (vv)),(12,11,some (.bool true))] hHeld (by kernel_rfl) ?_
         simp only[runA,Act.put,zB,zC,zD]
         refine wpAnyH_done (by kernel_rfl) (tNoP ?_) _
         have bz:=zh hHeld.2
         have kx1:w5.cell? ⟨X,1,none⟩=some (.int .i64 kind):=(hHeld.2.cell (p:=⟨X,1,none⟩) hXz).trans hx1z
         have kv7:w5.cell? ⟨g9,7,none⟩=some (.slice D4 v.attrs.length t4):=hHeld.1.2.2 7 _ rfl
         clear hHeld
         obtain⟨A9,c9,rfl,_,_⟩:=hvl.out.val
         cases L''
         ·by_cases h4:l.length<=4
          ·have h4':(l.length:Int)<=4:=by omega
           by_cases hz:4096<cellsB l
           ·have HG:=zh (HGo.out true (by rw[hs0];simp[h4,hz]))
            clear HGo hs0
            go_wp2_with (go_at_call 16;(with_reducible refine(yct hvl.out).mono ?_);rintro e w6 ⟨rfl,rfl⟩)
            go_roundw
            case rel=>exact⟨j+1,_,by omega,by go_num,rfl,HG,zh (HZ.out.trans (bz.out.mono HZ.out.size))⟩
            case measure=>simp only[intOf];omega
           ·have hzb:decide (4096<cellsB l)=false:=decide_eq_false hz
            rw[hzb,Bool.and_false,Bool.false_or] at hs0
            by_cases hk:kind=10
            ·by_cases ha:16<v.attrs.length
             ·have ha':(16:Int)<(v.attrs.length:Int):=by omega
              have HG:=zh (HGo.out true (by rw[hs0];simp[hk,ha]))
              clear HGo hs0
              subst hk
              go_wp2_with (go_at_call 16;(with_reducible refine(yct hvl.out).mono ?_);rintro e w6 ⟨rfl,rfl⟩)
              go_roundw
              case rel=>exact⟨j+1,_,by omega,by go_num,rfl,HG,zh (HZ.out.trans (bz.out.mono HZ.out.size))⟩
              case measure=>simp only[intOf];omega
             ·have ha':¬(16:Int)<(v.attrs.length:Int):=by omega
              have hab:decide ((16:Int)<(v.attrs.length:Int))=false:=decide_eq_false ha'
              have HG:=zh (HGo.out false (by rw[hs0];simp[ha]))
              clear HGo hs0
              subst hk
              go_wp2_with (go_at_call 16;(with_reducible refine(yct hvl.out).mono ?_);rintro e w6 ⟨rfl,rfl⟩)
              go_roundw
              case rel=>exact⟨j+1,_,by omega,by go_num,rfl,HG,zh (HZ.out.trans (bz.out.mono HZ.out.size))⟩
              case measure=>simp only[intOf];omega
            ·have hk':(kind==10)=false:=by rw[beq_eq_false_iff_ne];exact hk
             have HG:=zh (HGo.out false (by rw[hs0];simp[hk]))
             clear HGo hs0
             go_wp2_with (go_at_call 16;(with_reducible refine(yct hvl.out).mono ?_);rintro e w6 ⟨rfl,rfl⟩)
             go_roundw
             case rel=>exact⟨j+1,_,by omega,by go_num,rfl,HG,zh (HZ.out.trans (bz.out.mono HZ.out.size))⟩
             case measure=>simp only[intOf];omega
          ·have h4':¬(l.length:Int)<=4:=by omega
           rw[decide_eq_false h4,Bool.false_and,Bool.false_or] at hs0
           by_cases hk:kind=10
           ·by_cases ha:16<v.attrs.length
            ·have ha':(16:Int)<(v.attrs.length:Int):=by omega
             have HG:=zh (HGo.out true (by rw[hs0];simp[hk,ha]))
             clear HGo hs0
             subst hk
             go_wp2_with fail
             go_roundw
             case rel=>exact⟨j+1,_,by omega,by go_num,rfl,HG,zh (HZ.out.trans (bz.out.mono HZ.out.size))⟩
             case measure=>simp only[intOf];omega
            ·have ha':¬(16:Int)<(v.attrs.length:Int):=by omega
             have hab:decide ((16:Int)<(v.attrs.length:Int))=false:=decide_eq_false ha'
             have HG:=zh (HGo.out false (by rw[hs0];simp[ha]))
             clear HGo hs0
             subst hk
             go_wp2_with fail
             go_roundw
             case rel=>exact⟨j+1,_,by omega,by go_num,rfl,HG,zh (HZ.out.trans (bz.out.mono HZ.out.size))⟩
             case measure=>simp only[intOf];omega
           ·have hk':(kind==10)=false:=by rw[beq_eq_false_iff_ne];exact hk
            have HG:=zh (HGo.out false (by rw[hs0];simp[hk]))
            clear HGo hs0
            go_wp2_with fail
            go_roundw
            case rel=>exact⟨j+1,_,by omega,by go_num,rfl,HG,zh (HZ.out.trans (bz.out.mono HZ.out.size))⟩
            case measure=>simp only[intOf];omega
         ·have HG:=zh (HGo.out true (by simp))
          clear HGo hs0
          go_wp2
          go_roundw
          case rel=>exact⟨j+1,_,by omega,by go_num,rfl,HG,zh (HZ.out.trans (bz.out.mono HZ.out.size))⟩
          case measure=>simp only[intOf];omega
     ·have hjlt:j<x.dims.length:=by omega
      have hji:(j:Int)<(x.dims.length:Int):=by omega
      obtain⟨d,hd⟩:∃ d,x.dims[j]?=some d:=⟨_,List.getElem?_eq_getElem hjlt⟩
      obtain⟨b2,off2,cs,rfl,hb2,_,hr,hp⟩:=HL1.out.get hd
      obtain⟨rfl,_,_⟩:=hp
      have hBw:Below w.heap.size w wr:=HY.out.trans (hD.out.mono HY.out.size)
      have q0:wr.cell? ⟨b2,off2+j*3,none⟩=some (.string d.name):=(hBw.cell (p:=⟨b2,off2+j*3,none⟩) hb2).trans (hr 0 _ rfl)
      have q1:wr.cell? ⟨b2,off2+j*3+1,none⟩=some (.int .i64 d.size):=(hBw.cell (p:=⟨b2,off2+j*3+1,none⟩) hb2).trans (hr 1 _ rfl)
      have q2:wr.cell? ⟨b2,off2+j*3+2,none⟩=some (.bool d.opn):=(hBw.cell (p:=⟨b2,off2+j*3+2,none⟩) hb2).trans (hr 2 _ rfl)
      have HGo:=zh (show ∀ b,b=(L'||dimLim d)->b=(L1||(x.dims.take (j+1)).any dimLim) from fun b h=>by rw[h,hC.out,ye2 hd,Bool.or_assoc])
      have HN:=zh (show Below wy.heap.size wy (wr.alloc (.cells #[.string d.name,.int .i64 d.size,.bool d.opn] 26)) from yaa hD.out _)
      clear hr hd hC hD hBw HA3 HL1 HL2 HY HY3 HXP HV HW HS HK VA0 f1 f2 f3
      cases L'
      ·by_cases hdl:1024<d.size
       ·have HG:=zh (HGo.out true (by unfold dimLim;simp[hdl]))
        clear HGo
        go_wp2
        go_roundw
        case rel=>exact⟨j+1,_,by omega,by go_num,rfl,HG,HN⟩
        case measure=>simp only[intOf];omega
       ·have HG:=zh (HGo.out false (by unfold dimLim;simp[hdl]))
        clear HGo
        go_wp2
        go_roundw
        case rel=>exact⟨j+1,_,by omega,by go_num,rfl,HG,HN⟩
        case measure=>simp only[intOf];omega
      ·have HG:=zh (HGo.out true (by simp))
       clear HGo
       go_wp2
       go_roundw
       case rel=>exact⟨j+1,_,by omega,by go_num,rfl,HG,HN⟩
       case measure=>simp only[intOf];omega
def appR (kind:Int) (s:List GroupD) (r:Int×List GroupD):Int×List GroupD:=if validB s=false then (30,[]) else if r.1≠0 then (r.1,[]) else if checkedB kind r.2≠0 then (checkedB kind r.2,[]) else (0,r.2)
def AppQ (w:World) (R:Int×List GroupD) (e:Ending) (w':World):Prop:=∃ v F,e=.returned (.tuple #[.agg #[v],.int .i64 R.1])/\DO kGroupO 4 55 w' F v R.2/\(∀ b,F b->w.heap.size<=b)/\Below w.heap.size w w'
theorem do_nil {α:Type} (P:RdO α) (m:Nat) (t:TypeId) (w:World):DO P m t w (fun _=>False) (.slice none 0 0) []:=⟨[],fun _ _=>False,rfl,World.ownsRow_nil _ _ _ _,fun g h=>(by cases h),⟨fun _ _ _ h=>h.elim,fun _ _ h=>h.elim⟩,fun _ h=>h.elim,fun k x h=>by cases h⟩
theorem ys7 (o:Option Nat):ixV o=.int .i64 (ixI o):=by cases o<;>rfl
theorem yga {s:List GroupD} (h:validB s=true):∀ x ∈ s,listsB x=true:=by
 unfold validB at h
 rw[Bool.and_eq_true,Bool.and_eq_true,Bool.and_eq_true] at h
 intro x hx
 obtain⟨k,hk,rfl⟩:=List.mem_iff_getElem.1 hx
 have h1:=List.all_eq_true.1 h.2.1 (s[k],k) (by
  rw[List.mem_iff_getElem]
  exact⟨k,by simpa using hk,by simp⟩)
 unfold placeB at h1
 rw[Bool.and_eq_true] at h1
 exact h1.2
theorem yoc {s:List GroupD} (h:validB s=true):∀ x ∈ s,x.dims.length<=1500000/\Asc dimK x.dims:=by
 intro x hx
 have h1:=yga h x hx
 unfold listsB at h1
 rw[Bool.and_eq_true,Bool.and_eq_true,Bool.and_eq_true,Bool.and_eq_true] at h1
 refine⟨?_,yqf (key:=dimK) h1.2.2.1⟩
 have h2:=h1.2.2.1
 unfold ascB at h2
 rw[Bool.and_eq_true,Bool.and_eq_true,decide_eq_true_eq,List.length_map] at h2
 omega
theorem yj5 (sv:Value) (s:List GroupD) (P N M:ByteArray) (z:Int) (d:DimD) (vn:ByteArray) (vt:Int) (A1 A2 A3 A4 A5:Option Addr) (n1 c1 n2 c2 n3 c3 n4 c4 n5 c5:Nat) (vf vu an:ByteArray) (ak:Int) (at_:ByteArray) (w:World) (hV:VSchema w w.heap.size sv s) (hs:smallC s) (hg:∀ g ∈ s,smallG g) (_hP:P.size<=4000000000) (hw:Ws w)
  (R:Int×List GroupD) (hR:validB s=true->smallC R.2)
  (RULE:validB s=true->∀ (X B:Nat) (v:Value) (F:Nat->Prop) (w2:World),DO kGroupO 4 55 w2 F v s->Bk w2 X (chC v 3 P N M z d [.string vn,.int .i64 vt,.slice A1 n1 c1,.slice A2 n2 c2,.string vf,.string vu,.slice A3 n3 c3,.slice A4 n4 c4] [.string an,.int .i64 ak,.string at_,.slice A5 n5 c5] (s.findIdx? fun x=>bl x.path==bl P)) 69->(∀ b,F b->B<=b/\b≠X)->B<=X->
   Calls Tryz.prog 22 #[.pointer (some ⟨X,0,none⟩)] w2 (RuleQ X B (fun v=>chC v 3 P N M z d [.string vn,.int .i64 vt,.slice A1 n1 c1,.slice A2 n2 c2,.string vf,.string vu,.slice A3 n3 c3,.slice A4 n4 c4] [.string an,.int .i64 ak,.string at_,.slice A5 n5 c5] (s.findIdx? fun x=>bl x.path==bl P)) w2 R F)) :
  Calls Tryz.prog 8 #[.agg #[sv],.agg #[.int .i64 3,.string P,.string N,.string M,.int .i64 z,.string d.name,.int .i64 d.size,.bool d.opn,.string vn,.int .i64 vt,.slice A1 n1 c1,.slice A2 n2 c2,.string vf,.string vu,.slice A3 n3 c3,.slice A4 n4 c4,.string an,.int .i64 ak,.string at_,.slice A5 n5 c5]] w (AppQ w (appR 3 s R)):=by
 obtain⟨A,c,rfl,hAc,hA63⟩:=hV.val
 obtain⟨wx,hwx⟩:∃ wx,wx=((w.alloc (.cells #[.slice A s.length c] 24)).alloc (.cells #[.int .i64 3,.string P,.string N,.string M,.int .i64 z,.string d.name,.int .i64 d.size,.bool d.opn,.string vn,.int .i64 vt,.slice A1 n1 c1,.slice A2 n2 c2,.string vf,.string vu,.slice A3 n3 c3,.slice A4 n4 c4,.string an,.int .i64 ak,.string at_,.slice A5 n5 c5] 45)).alloc (.cells #[.slice none 0 0] 24):=⟨_,rfl⟩
 have hx1:Below w.heap.size w wx:=by rw[hwx];(repeat (first|exact zJ _ _|assumption|refine yab ?_ _|refine zL ?_|refine yac ?_ (by assumption)|refine yaa ?_ _|refine zO ?_ (by simp<;>omega) _|refine zP ?_ (by simp<;>omega) _))
 have zx:wx.heap.size=w.heap.size+3:=by rw[hwx];simp
 have kS:Bk wx w.heap.size #[.slice A s.length c] 24:=by rw[hwx];exact(Bk.new w _ _).alloc.alloc
 have kC:Bk wx (w.heap.size+1) #[.int .i64 3,.string P,.string N,.string M,.int .i64 z,.string d.name,.int .i64 d.size,.bool d.opn,.string vn,.int .i64 vt,.slice A1 n1 c1,.slice A2 n2 c2,.string vf,.string vu,.slice A3 n3 c3,.slice A4 n4 c4,.string an,.int .i64 ak,.string at_,.slice A5 n5 c5] 45:=by
  have h:=(Bk.new (w.alloc (.cells #[.slice A s.length c] 24)) #[.int .i64 3,.string P,.string N,.string M,.int .i64 z,.string d.name,.int .i64 d.size,.bool d.opn,.string vn,.int .i64 vt,.slice A1 n1 c1,.slice A2 n2 c2,.string vf,.string vu,.slice A3 n3 c3,.slice A4 n4 c4,.string an,.int .i64 ak,.string at_,.slice A5 n5 c5] 45).alloc (D:=#[.slice none 0 0]) (u:=24)
  rw[World.size_alloc,<- hwx] at h
  exact h
 have kR:Bk wx (w.heap.size+2) #[.slice none 0 0] 24:=by
  have h:=Bk.new ((w.alloc (.cells #[.slice A s.length c] 24)).alloc (.cells #[.int .i64 3,.string P,.string N,.string M,.int .i64 z,.string d.name,.int .i64 d.size,.bool d.opn,.string vn,.int .i64 vt,.slice A1 n1 c1,.slice A2 n2 c2,.string vf,.string vu,.slice A3 n3 c3,.slice A4 n4 c4,.string an,.int .i64 ak,.string at_,.slice A5 n5 c5] 45)) #[.slice none 0 0] 24
  rw[World.size_alloc,World.size_alloc,<- hwx] at h
  exact h
 have VA:=fun w2 (hb:Below wx.heap.size wx w2)=>ycu _ s w2 ((VL.keeps yah hV (hx1.trans (hb.mono hx1.size))).lifts yai (hx1.trans (hb.mono hx1.size)).size) hs.1.1 (hw.up (hx1.trans (hb.mono hx1.size)))
 have CP:=fun w2 (hb:Below wx.heap.size wx w2)=>yqi _ s w2 ((VL.keeps yah hV (hx1.trans (hb.mono hx1.size))).lifts yai (hx1.trans (hb.mono hx1.size)).size) (by have:=hs.1.2.1;omega) hg
 have GR:=fun w2 (hb:Below wx.heap.size wx w2)=>ydv _ s P w2 ((VL.keeps yah hV (hx1.trans (hb.mono hx1.size))).lifts yai (hx1.trans (hb.mono hx1.size)).size)
 rw[ys7] at GR
 have HKR:=zh (show ∀ w2,Below wx.heap.size wx w2->Bk w2 (w.heap.size+2) #[.slice none 0 0] 24 from fun w2 hb=>kR.up hb)
 have HKC:=zh (show ∀ w2,Below wx.heap.size wx w2->Bk w2 (w.heap.size+1) #[.int .i64 3,.string P,.string N,.string M,.int .i64 z,.string d.name,.int .i64 d.size,.bool d.opn,.string vn,.int .i64 vt,.slice A1 n1 c1,.slice A2 n2 c2,.string vf,.string vu,.slice A3 n3 c3,.slice A4 n4 c4,.string an,.int .i64 ak,.string at_,.slice A5 n5 c5] 45 from fun w2 hb=>kC.up hb)
 have HS:=zh (show ∀ w',Below wx.heap.size wx w'->(fun w'=>Bk w' w.heap.size #[.slice A s.length c] 24/\Bk w' (w.heap.size+1) #[.int .i64 3,.string P,.string N,.string M,.int .i64 z,.string d.name,.int .i64 d.size,.bool d.opn,.string vn,.int .i64 vt,.slice A1 n1 c1,.slice A2 n2 c2,.string vf,.string vu,.slice A3 n3 c3,.slice A4 n4 c4,.string an,.int .i64 ak,.string at_,.slice A5 n5 c5] 45/\Below wx.heap.size wx w') w' from fun w' hb=>⟨kS.up hb,kC.up hb,hb⟩)
 have kq:wx.cell? ⟨w.heap.size,0,none⟩=some (.slice A s.length c):=kS.cell 0
 have NIL:=zh (show ∀ (code:Int) (w':World),Below wx.heap.size wx w'->AppQ w (code,[]) (.returned (.tuple #[.agg #[.slice none 0 0],.int .i64 code])) (w'.setCell ⟨w.heap.size+2,0,none⟩ (.slice none 0 0)) from fun code w' hb=>⟨_,_,rfl,do_nil _ _ _ _,fun _ h=>h.elim,(hx1.trans (hb.mono hx1.size)).setCell (p:=⟨w.heap.size+2,0,none⟩) (by show w.heap.size<=w.heap.size+2;omega) _⟩)
 have HX1:=zh hx1
 clear kS kC kR hV hAc hA63 hg hx1
 obtain⟨RR,hRR⟩:∃ RR,appR 3 s R=RR:=⟨_,rfl⟩
 rw[hRR]
 unfold appR at hRR
 cases hv:validB s
 ·rw[hv,if_pos rfl] at hRR
  subst hRR
  rw[hv] at VA
  clear RULE hR hs CP GR hv HS HKC HX1 hw
  go_enter Tryz.func8,Tryz.ntmps8
  go_wp2_with fail
  rw[<- hwx]
  clear hwx
  go_wp2_with (go_at_call 6;(with_reducible refine(VA _ (Below.refl _ _)).mono ?_);rintro e w1 ⟨rfl,b1⟩;have kr1:=HKR.out w1 b1;have r0:w1.cell? ⟨w.heap.size+2,0,none⟩=some (.slice none 0 0):=kr1.cell 0;have rf:w1.frozen? ⟨w.heap.size+2,0,none⟩=false:=kr1.frozen 0)
  have kF:Bk (w1.setCell ⟨w.heap.size+2,0,none⟩ (.slice none 0 0)) (w.heap.size+2) #[.slice none 0 0] 24:=kr1.set (i:=0) (.slice none 0 0)
  have hL:=yaw (P:=Tryz.prog) kF Tryz.underlying24 rfl (by kernel_rfl)
  exact bodyPost_ret (ybs (U:=.int .i64 30) rfl rfl hL rfl) rfl (NIL.out 30 w1 b1)
 ·rw[hv,if_neg (by decide)] at hRR
  have HRR:=zh hRR
  clear hRR
  rw[hv] at VA
  have RULE:=RULE hv
  have hR:=hR hv
  generalize ho:(s.findIdx? fun x=>bl x.path==bl P)=o at *
  clear hs hv ho
  go_enter Tryz.func8,Tryz.ntmps8
  go_wp2_with fail
  rw[<- hwx]
  clear hwx
  go_upto_region 3 with (go_at_call 6;(with_reducible refine(VA _ (Below.refl _ _)).mono ?_);rintro e w1 ⟨rfl,b1⟩)
  refine wp_region_noPanic ?_
  refine xStartH (E:=[]) (S:=fun w'=>Bk w' w.heap.size #[.slice A s.length c] 24/\Bk w' (w.heap.size+1) #[.int .i64 3,.string P,.string N,.string M,.int .i64 z,.string d.name,.int .i64 d.size,.bool d.opn,.string vn,.int .i64 vt,.slice A1 n1 c1,.slice A2 n2 c2,.string vf,.string vu,.slice A3 n3 c3,.slice A4 n4 c4,.string an,.int .i64 ak,.string at_,.slice A5 n5 c5] 45/\Below wx.heap.size wx w') (by kernel_rfl) (HS.out _ (Below.drew b1)) fun hHeld=>?_
  refine xLoad 0 16 24 (.tmp 2) w.heap.size 0 [.slice A s.length c] hHeld (by kernel_rfl) (by kernel_rfl) rfl (fun w' hw'=>ybu hw'.1) Tryz.underlying24 rfl (by kernel_rfl) ?_
  simp only[Act.put,zB,zC,zD]
  refine xLoad 2 18 45 (.tmp 3) (w.heap.size+1) 0 [.int .i64 3,.string P,.string N,.string M,.int .i64 z,.string d.name,.int .i64 d.size,.bool d.opn,.string vn,.int .i64 vt,.slice A1 n1 c1,.slice A2 n2 c2,.string vf,.string vu,.slice A3 n3 c3,.slice A4 n4 c4,.string an,.int .i64 ak,.string at_,.slice A5 n5 c5] hHeld (by kernel_rfl) (by kernel_rfl) rfl (fun w' hw'=>ybu hw'.2.1) Tryz.underlying45 rfl (by kernel_rfl) ?_
  simp only[Act.put,zB,zC,zD]
  refine xLoad 3 19 24 (.tmp 2) w.heap.size 0 [.slice A s.length c] hHeld (by kernel_rfl) (by kernel_rfl) rfl (fun w' hw'=>ybu hw'.1) Tryz.underlying24 rfl (by kernel_rfl) ?_
  simp only[Act.put,zB,zC,zD]
  refine xVal 4 20 (.pointer (some ⟨w.heap.size+1,1,none⟩)) hHeld (by kernel_rfl) (fun w' hSw=>?_) ?_
  ·simp only[zE,zF,zG,zH,zI];first|(go_simp;done)|(with_reducible rfl)|(go_simp;omega)
  simp only[Act.put,zB,zC,zD]
  refine xVal 5 21 (.string P) hHeld (by kernel_rfl) (fun w' hSw=>?_) ?_
  ·have q1:=hSw.2.1.cell 1;simp only[List.getElem?_toArray,List.getElem?_cons_succ,List.getElem?_cons_zero] at q1;simp only[zE,zF,zG,zH,zI];first|(go_simp;done)|(with_reducible rfl)|(go_simp;omega)
  simp only[Act.put,zB,zC,zD]
  refine xEnter 1 17 19 #[.agg #[.slice A s.length c]] (by kernel_rfl) (by kernel_rfl) (by kernel_rfl) (CP _ hHeld.2.2) ?_
  rintro e w3 ⟨A9,c9,rfl,hD3,hb3⟩
  have b3:=yac hHeld.2.2 hb3
  have z3:=hHeld.2.2.size
  refine⟨_,rfl,HS.out _ b3,fun hHeld=>?_⟩
  simp only[Act.put,zB,zC,zD]
  refine xEnter 6 22 13 #[.agg #[.slice A s.length c],.string P] (by kernel_rfl) (by kernel_rfl) (by kernel_rfl) (GR _ hHeld.2.2) ?_
  rintro e w4 ⟨rfl,hb4⟩
  have b4:=yac b3 hb4
  refine⟨_,rfl,HS.out _ b4,fun hHeld=>?_⟩
  simp only[Act.put,zB,zC,zD]
  refine xRun [(7,23,some (.agg #[.slice A9 s.length c9,.int .i64 3,.string P,.string N,.string M,.int .i64 z,.string d.name,.int .i64 d.size,.bool d.opn,.string vn,.int .i64 vt,.slice A1 n1 c1,.slice A2 n2 c2,.string vf,.string vu,.slice A3 n3 c3,.slice A4 n4 c4,.string an,.int .i64 ak,.string at_,.slice A5 n5 c5,.int .i64 (ixI o)]))] hHeld (by kernel_rfl) rfl ?_
  simp only[runA,Act.put,zB,zC,zD]
  refine xDo 8 24 (.pointer (some ⟨w4.heap.size,0,none⟩)) (w4.alloc (.cells #[.slice A9 s.length c9,.int .i64 3,.string P,.string N,.string M,.int .i64 z,.string d.name,.int .i64 d.size,.bool d.opn,.string vn,.int .i64 vt,.slice A1 n1 c1,.slice A2 n2 c2,.string vf,.string vu,.slice A3 n3 c3,.slice A4 n4 c4,.string an,.int .i64 ak,.string at_,.slice A5 n5 c5,.int .i64 (ixI o)] 69)) (by kernel_rfl) (by kernel_rfl) ?_ (fun _=>HS.out _ (yaa b4 _)) ?_
  ·simp only[zE,zF,zG,zH,zI];first|(go_simp;done)|(with_reducible rfl)|(go_simp;omega)
  simp only[Act.put,zB,zC,zD]
  have hHeld:=HS.out _ (yaa b4 (.cells #[.slice A9 s.length c9,.int .i64 3,.string P,.string N,.string M,.int .i64 z,.string d.name,.int .i64 d.size,.bool d.opn,.string vn,.int .i64 vt,.slice A1 n1 c1,.slice A2 n2 c2,.string vf,.string vu,.slice A3 n3 c3,.slice A4 n4 c4,.string an,.int .i64 ak,.string at_,.slice A5 n5 c5,.int .i64 (ixI o)] 69))
  refine xRun [(9,6,some (.pointer (some ⟨w4.heap.size,0,none⟩)))] hHeld (by kernel_rfl) rfl ?_
  simp only[runA,Act.put,zB,zC,zD]
  refine xDone (by kernel_rfl) (tNoP ?_)
  have kX:Bk (w4.alloc (.cells #[.slice A9 s.length c9,.int .i64 3,.string P,.string N,.string M,.int .i64 z,.string d.name,.int .i64 d.size,.bool d.opn,.string vn,.int .i64 vt,.slice A1 n1 c1,.slice A2 n2 c2,.string vf,.string vu,.slice A3 n3 c3,.slice A4 n4 c4,.string an,.int .i64 ak,.string at_,.slice A5 n5 c5,.int .i64 (ixI o)] 69)) w4.heap.size #[.slice A9 s.length c9,.int .i64 3,.string P,.string N,.string M,.int .i64 z,.string d.name,.int .i64 d.size,.bool d.opn,.string vn,.int .i64 vt,.slice A1 n1 c1,.slice A2 n2 c2,.string vf,.string vu,.slice A3 n3 c3,.slice A4 n4 c4,.string an,.int .i64 ak,.string at_,.slice A5 n5 c5,.int .i64 (ixI o)] 69:=Bk.new w4 _ _
  have hD5:=(hD3.more ya0 hb4).more ya0 (yaa (Below.refl _ _) (.cells #[.slice A9 s.length c9,.int .i64 3,.string P,.string N,.string M,.int .i64 z,.string d.name,.int .i64 d.size,.bool d.opn,.string vn,.int .i64 vt,.slice A1 n1 c1,.slice A2 n2 c2,.string vf,.string vu,.slice A3 n3 c3,.slice A4 n4 c4,.string an,.int .i64 ak,.string at_,.slice A5 n5 c5,.int .i64 (ixI o)] 69))
  have b5:=yaa b4 (.cells #[.slice A9 s.length c9,.int .i64 3,.string P,.string N,.string M,.int .i64 z,.string d.name,.int .i64 d.size,.bool d.opn,.string vn,.int .i64 vt,.slice A1 n1 c1,.slice A2 n2 c2,.string vf,.string vu,.slice A3 n3 c3,.slice A4 n4 c4,.string an,.int .i64 ak,.string at_,.slice A5 n5 c5,.int .i64 (ixI o)] 69)
  have RU:=zh (show ∀ wq,Below (w4.alloc (.cells #[.slice A9 s.length c9,.int .i64 3,.string P,.string N,.string M,.int .i64 z,.string d.name,.int .i64 d.size,.bool d.opn,.string vn,.int .i64 vt,.slice A1 n1 c1,.slice A2 n2 c2,.string vf,.string vu,.slice A3 n3 c3,.slice A4 n4 c4,.string an,.int .i64 ak,.string at_,.slice A5 n5 c5,.int .i64 (ixI o)] 69)).heap.size (w4.alloc (.cells #[.slice A9 s.length c9,.int .i64 3,.string P,.string N,.string M,.int .i64 z,.string d.name,.int .i64 d.size,.bool d.opn,.string vn,.int .i64 vt,.slice A1 n1 c1,.slice A2 n2 c2,.string vf,.string vu,.slice A3 n3 c3,.slice A4 n4 c4,.string an,.int .i64 ak,.string at_,.slice A5 n5 c5,.int .i64 (ixI o)] 69)) wq->Calls Tryz.prog 22 #[.pointer (some ⟨w4.heap.size,0,none⟩)] wq (RuleQ w4.heap.size wx.heap.size (fun v=>chC v 3 P N M z d [.string vn,.int .i64 vt,.slice A1 n1 c1,.slice A2 n2 c2,.string vf,.string vu,.slice A3 n3 c3,.slice A4 n4 c4] [.string an,.int .i64 ak,.string at_,.slice A5 n5 c5] o) wq R _) from fun wq hb=>RULE w4.heap.size wx.heap.size _ _ wq (hD5.more ya0 hb) (kX.up hb) (fun b hbb=>⟨Nat.le_trans z3 hbb.1,fun e=>by have h1:=hb4.size;have h2:=hbb.2;omega⟩) b4.size)
  generalize hw5:w4.alloc (.cells #[.slice A9 s.length c9,.int .i64 3,.string P,.string N,.string M,.int .i64 z,.string d.name,.int .i64 d.size,.bool d.opn,.string vn,.int .i64 vt,.slice A1 n1 c1,.slice A2 n2 c2,.string vf,.string vu,.slice A3 n3 c3,.slice A4 n4 c4,.string an,.int .i64 ak,.string at_,.slice A5 n5 c5,.int .i64 (ixI o)] 69)=w5 at *
  have b4s:=b4.size
  clear hw5 hD5 hD3 hHeld hb3 hb4 b3 b4 RULE HS kX b1
  obtain⟨e0,m0⟩:=yrm w5
  have hmm:=@run_makeMap Tryz.prog
  obtain⟨W1,u1,e1,m1⟩:=ycv (P:=Tryz.prog) (t:=72) 1 (.func (.func 20) #[] #[]) Tryz.underlying72 Tryz.underlying3 e0 m0 rfl
  obtain⟨W2,u2,e2,m2⟩:=ycv (P:=Tryz.prog) (t:=72) 2 (.func (.func 21) #[] #[]) Tryz.underlying72 Tryz.underlying3 e1 m1 rfl
  obtain⟨W3,u3,e3,m3⟩:=ycv (P:=Tryz.prog) (t:=72) 3 (.func (.func 22) #[] #[]) Tryz.underlying72 Tryz.underlying3 e2 m2 rfl
  obtain⟨W4,u4,e4,m4⟩:=ycv (P:=Tryz.prog) (t:=72) 4 (.func (.func 23) #[] #[]) Tryz.underlying72 Tryz.underlying3 e3 m3 rfl
  obtain⟨W5,u5,e5,m5⟩:=ycv (P:=Tryz.prog) (t:=72) 5 (.func (.func 24) #[] #[]) Tryz.underlying72 Tryz.underlying3 e4 m4 rfl
  obtain⟨W6,u6,e6,m6⟩:=ycv (P:=Tryz.prog) (t:=72) 6 (.func (.func 25) #[] #[]) Tryz.underlying72 Tryz.underlying3 e5 m5 rfl
  obtain⟨W7,u7,e7,m7⟩:=ycv (P:=Tryz.prog) (t:=72) 7 (.func (.func 26) #[] #[]) Tryz.underlying72 Tryz.underlying3 e6 m6 rfl
  obtain⟨W8,u8,e8,m8⟩:=ycv (P:=Tryz.prog) (t:=72) 8 (.func (.func 27) #[] #[]) Tryz.underlying72 Tryz.underlying3 e7 m7 rfl
  obtain⟨W9,u9,e9,m9⟩:=ycv (P:=Tryz.prog) (t:=72) 9 (.func (.func 28) #[] #[]) Tryz.underlying72 Tryz.underlying3 e8 m8 rfl
  obtain⟨W10,u10,e10,m10⟩:=ycv (P:=Tryz.prog) (t:=72) 10 (.func (.func 29) #[] #[]) Tryz.underlying72 Tryz.underlying3 e9 m9 rfl
  obtain⟨W11,u11,e11,m11⟩:=ycv (P:=Tryz.prog) (t:=72) 11 (.func (.func 30) #[] #[]) Tryz.underlying72 Tryz.underlying3 e10 m10 rfl
  have lk:=ytq (P:=Tryz.prog) (t:=72) 3 Tryz.underlying72 Tryz.underlying3 e11 rfl
  have b11:Below wx.heap.size wx W11:=b5.trans (m11.mono b5.size)
  have k10:W11.cell? ⟨w.heap.size+1,0,none⟩=some (.int .i64 3):=(HKC.out _ b11).cell 0
  have RUW:=zh (RU.out W11 m11)
  obtain⟨rc,rs⟩:=R
  have HZ:=zh z3
  have HX4:=zh b4s
  clear e0 m0 e1 m1 e2 m2 e3 m3 e4 m4 e5 m5 e6 m6 e7 m7 e8 m8 e9 m9 e10 m10 e11 m11 RU HKC z3 b4s
  by_cases hrc:rc=0
  ·subst hrc
   by_cases hck:checkedB 3 rs=0
   ·have hE:RR=(0,rs):=by rw[<- HRR.out,if_neg (fun h=>h rfl),if_neg (fun h=>h hck)]
    subst hE
    clear HRR
    have CK:=fun (X:Nat) (v:Value) (w6:World) (F:Nat->Prop) (hd:DO kGroupO 4 55 w6 F v rs) (h0:w6.cell? ⟨X,0,none⟩=some v) (h1:w6.cell? ⟨X,1,none⟩=some (.int .i64 3)) (hw6:Ws w6)=>(show Calls Tryz.prog 31 #[.pointer (some ⟨X,0,none⟩)] w6 fun e w'=>e=.returned (.int .i64 0)/\Below w6.heap.size w6 w' from by
     obtain⟨A6,c6,rfl⟩:=hd.val
     have h:=ygp X A6 rs.length c6 rs 3 w6 hd.schema rfl hR h0 h1 hw6
     rw[hck] at h
     exact h)
    go_wp2_with (first
     | (go_at_call 31;(with_reducible refine(CK w4.heap.size (.slice A6 rs.length c6) w6 F6 D6.out K60.out K61.out HW6.out).mono ?_);rintro e w7 ⟨rfl,hb7⟩;have B7:=zh (yac BS.out hb7);have kr:=HKR.out w7 (BW6.out.trans (hb7.mono BW6.out.size));have kr0:w7.cell? ⟨w.heap.size+2,0,none⟩=some (.slice none 0 0):=kr.cell 0;have krf:w7.frozen? ⟨w.heap.size+2,0,none⟩=false:=kr.frozen 0;have kx0:w7.cell? ⟨w4.heap.size,0,none⟩=some (.slice A6 rs.length c6):=(KX6.out.up hb7).cell 0;have H7:=zh hb7;clear hb7)
     | (go_at_call 22;(with_reducible refine RUW.out.mono ?_);rintro e w6 ⟨rfl,v6,F6,d1,d2,d3,d4⟩;obtain⟨A6,c6,rfl⟩:=d1.val;have D6:=zh d1;have F6B:=zh d4;have KX6:=zh d2;have BW6:=zh (b11.trans d3);have HW6:=zh (hw.up (HX1.out.trans (BW6.out.mono HX1.out.size)));have K60:=zh (show w6.cell? ⟨w4.heap.size,0,none⟩=some (.slice A6 rs.length c6) from d2.cell 0);have K61:=zh (show w6.cell? ⟨w4.heap.size,1,none⟩=some (.int .i64 3) from d2.cell 1);have BS:=zh (Below.refl w6.heap.size w6);clear d1 d2 d3 d4))
    have kF:Bk (w7.setCell ⟨w.heap.size+2,0,none⟩ (.slice A6 rs.length c6)) (w.heap.size+2) #[.slice A6 rs.length c6] 24:=kr.set (i:=0) _
    have hL:=yaw (P:=Tryz.prog) kF Tryz.underlying24 rfl (by kernel_rfl)
    have z6:∀ b,F6 b->w.heap.size+3<=b:=fun b hb=>by
     rcases F6B.out b hb with h|h
     ·have h1:=h.1;have h2:=HZ.out;omega
     ·have h1:=b11.size;omega
    exact bodyPost_ret (ybs (U:=.int .i64 0) rfl rfl hL rfl) rfl ⟨.slice A6 rs.length c6,F6,rfl,(D6.out.more ya0 H7.out).up ya0 (fun b hb=>yae _ _ _ _ (by have:=z6 b hb;omega)),fun b hb=>by have:=z6 b hb;omega,(HX1.out.trans ((BW6.out.trans (H7.out.mono BW6.out.size)).mono HX1.out.size)).setCell (p:=⟨w.heap.size+2,0,none⟩) (by show w.heap.size<=w.heap.size+2;omega) _⟩
   ·obtain⟨ck,hk⟩:∃ ck,checkedB 3 rs=ck:=⟨_,rfl⟩
    rw[hk] at hck
    have hE:RR=(ck,[]):=by rw[<- HRR.out,if_neg (fun h=>h rfl),hk,if_pos hck]
    subst hE
    clear HRR
    have hckb:(ck==0)=false:=by rw[beq_eq_false_iff_ne];exact hck
    have CK:=fun (X:Nat) (v:Value) (w6:World) (F:Nat->Prop) (hd:DO kGroupO 4 55 w6 F v rs) (h0:w6.cell? ⟨X,0,none⟩=some v) (h1:w6.cell? ⟨X,1,none⟩=some (.int .i64 3)) (hw6:Ws w6)=>(show Calls Tryz.prog 31 #[.pointer (some ⟨X,0,none⟩)] w6 fun e w'=>e=.returned (.int .i64 ck)/\Below w6.heap.size w6 w' from by
     obtain⟨A6,c6,rfl⟩:=hd.val
     have h:=ygp X A6 rs.length c6 rs 3 w6 hd.schema rfl hR h0 h1 hw6
     rw[hk] at h
     exact h)
    clear hk
    go_wp2_with (first
     | (go_at_call 31;(with_reducible refine(CK w4.heap.size (.slice A6 rs.length c6) w6 F6 D6.out K60.out K61.out HW6.out).mono ?_);rintro e w7 ⟨rfl,hb7⟩;have B7:=zh (BW6.out.trans (hb7.mono BW6.out.size));have kr:=HKR.out w7 B7.out;have kr0:w7.cell? ⟨w.heap.size+2,0,none⟩=some (.slice none 0 0):=kr.cell 0;have krf:w7.frozen? ⟨w.heap.size+2,0,none⟩=false:=kr.frozen 0;clear hb7)
     | (go_at_call 22;(with_reducible refine RUW.out.mono ?_);rintro e w6 ⟨rfl,v6,F6,d1,d2,d3,d4⟩;obtain⟨A6,c6,rfl⟩:=d1.val;have D6:=zh d1;have BW6:=zh (b11.trans d3);have HW6:=zh (hw.up (HX1.out.trans (BW6.out.mono HX1.out.size)));have K60:=zh (show w6.cell? ⟨w4.heap.size,0,none⟩=some (.slice A6 rs.length c6) from d2.cell 0);have K61:=zh (show w6.cell? ⟨w4.heap.size,1,none⟩=some (.int .i64 3) from d2.cell 1);clear d1 d2 d3 d4))
    have kF:Bk (w7.setCell ⟨w.heap.size+2,0,none⟩ (.slice none 0 0)) (w.heap.size+2) #[.slice none 0 0] 24:=kr.set (i:=0) (.slice none 0 0)
    have hL:=yaw (P:=Tryz.prog) kF Tryz.underlying24 rfl (by kernel_rfl)
    exact bodyPost_ret (ybs (U:=.int .i64 ck) rfl rfl hL rfl) rfl (NIL.out ck w7 B7.out)
  ·have hE:RR=(rc,[]):=by rw[<- HRR.out,if_pos hrc]
   subst hE
   clear HRR
   have hrcb:(rc==0)=false:=by rw[beq_eq_false_iff_ne];exact hrc
   go_wp2_with (go_at_call 22;(with_reducible refine RUW.out.mono ?_);rintro e w6 ⟨rfl,v6,F6,d1,d2,d3,d4⟩;have BW6:=zh (b11.trans d3);have kr:=HKR.out w6 BW6.out;have kr0:w6.cell? ⟨w.heap.size+2,0,none⟩=some (.slice none 0 0):=kr.cell 0;have krf:w6.frozen? ⟨w.heap.size+2,0,none⟩=false:=kr.frozen 0;clear d1 d2 d3 d4)
   have kF:Bk (w6.setCell ⟨w.heap.size+2,0,none⟩ (.slice none 0 0)) (w.heap.size+2) #[.slice none 0 0] 24:=kr.set (i:=0) (.slice none 0 0)
   have hL:=yaw (P:=Tryz.prog) kF Tryz.underlying24 rfl (by kernel_rfl)
   exact bodyPost_ret (ybs (U:=.int .i64 rc) rfl rfl hL rfl) rfl (NIL.out rc w6 BW6.out)
end Go.Proofs.YtajmjllhdcdkmaaGreatDoor
