import Derived.Test.YtajmjllhdcdkmaaGreatDoorZ
import Derived.Test.YtajmjllhdcdkmaaGreatDoorG16
import Derived.Test.YtajmjllhdcdkmaaGreatDoorG12
import Derived.Test.YtajmjllhdcdkmaaGreatDoorG10
import Derived.Test.YtajmjllhdcdkmaaGreatDoorG9
import Derived.Test.YtajmjllhdcdkmaaGreatDoorG11
import Derived.Deep.RegionHeld3
import Derived.WalkSpells
import Derived.WalkLawsBesides
import Derived.Deep.LoopGhost
import Derived.BigQuiet
import Derived.Deep.QuietTactic
set_option maxRecDepth 100000
set_option maxHeartbeats 6400000
namespace Go.Proofs.YtajmjllhdcdkmaaGreatDoor
open Go.RowKit Dg Q Num Str
def ixV (o:Option Nat):Value:=match o with
 | none=>.int .i64 (-1)
 | some i=>.int .i64 (i:Int)
theorem yh2 {α:Type} {p:α->Bool} {xs:List α} {k:Nat} {x:α} (h0:(xs.take k).findIdx? p=none) (hx:xs[k]?=some x) (hp:p x=true):xs.findIdx? p=some k:=by
 have hlt:=(List.getElem?_eq_some_iff.1 hx).1
 have e:xs=xs.take k++x::xs.drop (k+1):=by
  have h1:=(List.getElem?_eq_some_iff.1 hx).2
  rw[<- h1,<- List.drop_eq_getElem_cons hlt,List.take_append_drop]
 rw[e,List.findIdx?_append,h0,List.findIdx?_cons,hp]
 simp
 omega
theorem yko {α:Type} {p:α->Bool} {xs:List α} {k:Nat} {x:α} (h0:(xs.take k).findIdx? p=none) (hx:xs[k]?=some x) (hp:p x=false):(xs.take (k+1)).findIdx? p=none:=by
 rw[List.take_add_one,hx,List.findIdx?_append,h0]
 simp[hp]
theorem ysf (x:DimD) (N:ByteArray) (b:Nat) (w:World) (hc:w.cell? ⟨b,0,none⟩=some (.string N)):Calls Tryz.prog 80 #[.agg #[.string x.name,.int .i64 x.size,.bool x.opn],.pointer (some ⟨b,0,none⟩)] w fun e w'=>e=.returned (.bool (bl x.name==bl N))/\Below w.heap.size w w':=by
 have hE:(x.name.toList==N.toList)=(bl x.name==bl N):=eqSS _ _
 have hlt:b<w.heap.size:=World.block_lt_of_cell? w _ hc
 have hc2:=(World.cell?_alloc_lt w (.cells #[.string x.name,.int .i64 x.size,.bool x.opn] 26) ⟨b,0,none⟩ hlt).trans hc
 generalize (bl x.name==bl N)=e0 at *
 go_enter Tryz.func80,Tryz.ntmps80
 go_wp2
 go_ret
 exact⟨rfl,by (repeat (first|exact zJ _ _|assumption|refine yab ?_ _|refine zL ?_|refine yac ?_ (by assumption)|refine yaa ?_ _))⟩
theorem yos (A:Option Addr) (n c b:Nat) (xs:List DimD) (N:ByteArray) (w:World) (hV:VL kDim 3 w w.heap.size (.slice A n c) xs) (hn:xs.length=n) (hc:w.cell? ⟨b,0,none⟩=some (.string N)):Calls Tryz.prog 79 #[.slice A n c,.func (.func 80) #[] #[.pointer (some ⟨b,0,none⟩)]] w fun e w'=>e=.returned (ixV (xs.findIdx? fun x=>bl x.name==bl N))/\Below w.heap.size w w':=by
 have hb:b<w.heap.size:=World.block_lt_of_cell? w _ hc
 have hn63:n<=9223372036854775807:=by
  obtain⟨_,_,_,e,h1,_,h3,_⟩:=hV
  injection e with _ e2 _
  omega
 have nb:(n:Int)<=9223372036854775807:=by omega
 obtain⟨R,hR⟩:∃ R,xs.findIdx? (fun x=>bl x.name==bl N)=R:=⟨_,rfl⟩
 rw[hR]
 have HR:=zh hR
 have HV:=zh hV
 have HC:=zh (And.intro hb hc)
 clear hR hV hc hb hn63
 go_enter Tryz.func79,Tryz.ntmps79
 go_wp2
 go_loopw [8] (fun i wr=>∃ k:Nat,k<=n/\i=.int .i64 (k:Int)/\Hid ((xs.take k).findIdx? (fun x=>bl x.name==bl N)=none)/\Hid (Below w.heap.size w wr)) (fun i _=>(n - intOf i).toNat)
 case atStart=>exact⟨0,Nat.zero_le _,rfl,zh rfl,zh (Below.refl _ _)⟩
 case round=>
  obtain⟨k,hk,rfl,hN,hB⟩:=hrel
  by_cases hkn:k=n
  ·subst hkn
   have hR:=HR.out
   have hN:=hN.out
   rw[List.take_of_length_le (by omega)] at hN
   rw[hN] at hR
   subst hR
   clear hN HR HV HC
   go_wp2
   go_ret
   exact⟨rfl,hB.out⟩
  ·have hlt:k<n:=by omega
   have hi:(k:Int)<(n:Int):=by omega
   obtain⟨x,hx⟩:∃ x,xs[k]?=some x:=⟨_,List.getElem?_eq_getElem (by omega)⟩
   obtain⟨b0,off,vs,rfl,hlt0,_,hr,hp⟩:=HV.out.get hx
   obtain⟨rfl,_,_⟩:=hp
   have c0:wr.cell? ⟨b0,off+k*3,none⟩=some (.string x.name):=(hB.out.cell (p:=⟨b0,off+k*3,none⟩) hlt0).trans (hr 0 _ rfl)
   have c1:wr.cell? ⟨b0,off+k*3+1,none⟩=some (.int .i64 x.size):=(hB.out.cell (p:=⟨b0,off+k*3+1,none⟩) hlt0).trans (hr 1 _ rfl)
   have c2:wr.cell? ⟨b0,off+k*3+2,none⟩=some (.bool x.opn):=(hB.out.cell (p:=⟨b0,off+k*3+2,none⟩) hlt0).trans (hr 2 _ rfl)
   have CL:=ysf x N b wr ((hB.out.cell (p:=⟨b,0,none⟩) HC.out.1).trans HC.out.2)
   have HX:=zh hx
   clear hx hr hkn
   cases hq:(bl x.name==bl N)
   ·rw[hq] at CL
    have HN:=zh (yko hN.out HX.out hq)
    clear hN HX hq
    go_wp2_with (go_at_call 80;(with_reducible refine CL.mono ?_);rintro e w1 ⟨rfl,hb⟩;have b1:=zh (yac hB.out hb);clear hb)
    go_roundw
    case rel=>exact⟨k+1,by omega,by go_num,HN,b1⟩
    case measure=>simp only[intOf];omega
   ·rw[hq] at CL
    have hR:=HR.out
    rw[yh2 hN.out HX.out hq] at hR
    subst hR
    clear hN HX hq
    go_wp2_with (go_at_call 80;(with_reducible refine CL.mono ?_);rintro e w1 ⟨rfl,hb⟩;have b1:=zh (yac hB.out hb);clear hb)
    go_ret
    exact⟨rfl,b1.out⟩
theorem yqk (x:GroupD) (v1 v2 v3:Value) (N:ByteArray) (b:Nat) (w:World) (hc:w.cell? ⟨b,0,none⟩=some (.string N)):Calls Tryz.prog 39 #[.agg #[.string x.path,v1,v2,v3],.pointer (some ⟨b,0,none⟩)] w fun e w'=>e=.returned (.bool (bl x.path==bl N))/\Below w.heap.size w w':=by
 have hE:(x.path.toList==N.toList)=(bl x.path==bl N):=eqSS _ _
 have hlt:b<w.heap.size:=World.block_lt_of_cell? w _ hc
 have hc2:=(World.cell?_alloc_lt w (.cells #[.string x.path,v1,v2,v3] 55) ⟨b,0,none⟩ hlt).trans hc
 generalize (bl x.path==bl N)=e0 at *
 go_enter Tryz.func39,Tryz.ntmps39
 go_wp2
 go_ret
 exact⟨rfl,by (repeat (first|exact zJ _ _|assumption|refine yab ?_ _|refine zL ?_|refine yac ?_ (by assumption)|refine yaa ?_ _))⟩
theorem yn2 (A:Option Addr) (n c b:Nat) (xs:List GroupD) (N:ByteArray) (w:World) (hV:VL kGroup 4 w w.heap.size (.slice A n c) xs) (hn:xs.length=n) (hc:w.cell? ⟨b,0,none⟩=some (.string N)):Calls Tryz.prog 38 #[.slice A n c,.func (.func 39) #[] #[.pointer (some ⟨b,0,none⟩)]] w fun e w'=>e=.returned (ixV (xs.findIdx? fun x=>bl x.path==bl N))/\Below w.heap.size w w':=by
 have hb:b<w.heap.size:=World.block_lt_of_cell? w _ hc
 have hn63:n<=9223372036854775807:=by
  obtain⟨_,_,_,e,h1,_,h3,_⟩:=hV
  injection e with _ e2 _
  omega
 have nb:(n:Int)<=9223372036854775807:=by omega
 obtain⟨R,hR⟩:∃ R,xs.findIdx? (fun x=>bl x.path==bl N)=R:=⟨_,rfl⟩
 rw[hR]
 have HR:=zh hR
 have HV:=zh hV
 have HC:=zh (And.intro hb hc)
 clear hR hV hc hb hn63
 go_enter Tryz.func38,Tryz.ntmps38
 go_wp2
 go_loopw [8] (fun i wr=>∃ k:Nat,k<=n/\i=.int .i64 (k:Int)/\Hid ((xs.take k).findIdx? (fun x=>bl x.path==bl N)=none)/\Hid (Below w.heap.size w wr)) (fun i _=>(n - intOf i).toNat)
 case atStart=>exact⟨0,Nat.zero_le _,rfl,zh rfl,zh (Below.refl _ _)⟩
 case round=>
  obtain⟨k,hk,rfl,hN,hB⟩:=hrel
  by_cases hkn:k=n
  ·subst hkn
   have hR:=HR.out
   have hN:=hN.out
   rw[List.take_of_length_le (by omega)] at hN
   rw[hN] at hR
   subst hR
   clear hN HR HV HC
   go_wp2
   go_ret
   exact⟨rfl,hB.out⟩
  ·have hlt:k<n:=by omega
   have hi:(k:Int)<(n:Int):=by omega
   obtain⟨x,hx⟩:∃ x,xs[k]?=some x:=⟨_,List.getElem?_eq_getElem (by omega)⟩
   obtain⟨b0,off,vs,rfl,hlt0,_,hr,hp⟩:=HV.out.get hx
   obtain⟨v1,v2,v3,rfl,_⟩:=hp
   have c0:wr.cell? ⟨b0,off+k*4,none⟩=some (.string x.path):=(hB.out.cell (p:=⟨b0,off+k*4,none⟩) hlt0).trans (hr 0 _ rfl)
   have c1:wr.cell? ⟨b0,off+k*4+1,none⟩=some (v1):=(hB.out.cell (p:=⟨b0,off+k*4+1,none⟩) hlt0).trans (hr 1 _ rfl)
   have c2:wr.cell? ⟨b0,off+k*4+2,none⟩=some (v2):=(hB.out.cell (p:=⟨b0,off+k*4+2,none⟩) hlt0).trans (hr 2 _ rfl)
   have c3:wr.cell? ⟨b0,off+k*4+3,none⟩=some (v3):=(hB.out.cell (p:=⟨b0,off+k*4+3,none⟩) hlt0).trans (hr 3 _ rfl)
   have CL:=yqk x v1 v2 v3 N b wr ((hB.out.cell (p:=⟨b,0,none⟩) HC.out.1).trans HC.out.2)
   have HX:=zh hx
   clear hx hr hkn
   cases hq:(bl x.path==bl N)
   ·rw[hq] at CL
    have HN:=zh (yko hN.out HX.out hq)
    clear hN HX hq
    go_wp2_with (go_at_call 39;(with_reducible refine CL.mono ?_);rintro e w1 ⟨rfl,hb⟩;have b1:=zh (yac hB.out hb);clear hb)
    go_roundw
    case rel=>exact⟨k+1,by omega,by go_num,HN,b1⟩
    case measure=>simp only[intOf];omega
   ·rw[hq] at CL
    have hR:=HR.out
    rw[yh2 hN.out HX.out hq] at hR
    subst hR
    clear hN HX hq
    go_wp2_with (go_at_call 39;(with_reducible refine CL.mono ?_);rintro e w1 ⟨rfl,hb⟩;have b1:=zh (yac hB.out hb);clear hb)
    go_ret
    exact⟨rfl,b1.out⟩
theorem yq8 (x:VarD) (v1 v2 v3 v4:Value) (N:ByteArray) (b:Nat) (w:World) (hc:w.cell? ⟨b,0,none⟩=some (.string N)):Calls Tryz.prog 112 #[.agg #[.string x.name,.int .i64 x.typ,v1,v2,.string x.fill,.string x.unit,v3,v4],.pointer (some ⟨b,0,none⟩)] w fun e w'=>e=.returned (.bool (bl x.name==bl N))/\Below w.heap.size w w':=by
 have hE:(x.name.toList==N.toList)=(bl x.name==bl N):=eqSS _ _
 have hlt:b<w.heap.size:=World.block_lt_of_cell? w _ hc
 have hc2:=(World.cell?_alloc_lt w (.cells #[.string x.name,.int .i64 x.typ,v1,v2,.string x.fill,.string x.unit,v3,v4] 41) ⟨b,0,none⟩ hlt).trans hc
 generalize (bl x.name==bl N)=e0 at *
 go_enter Tryz.func112,Tryz.ntmps112
 go_wp2
 go_ret
 exact⟨rfl,by (repeat (first|exact zJ _ _|assumption|refine yab ?_ _|refine zL ?_|refine yac ?_ (by assumption)|refine yaa ?_ _))⟩
theorem ypv (A:Option Addr) (n c b:Nat) (xs:List VarD) (N:ByteArray) (w:World) (hV:VL kVar 8 w w.heap.size (.slice A n c) xs) (hn:xs.length=n) (hc:w.cell? ⟨b,0,none⟩=some (.string N)):Calls Tryz.prog 111 #[.slice A n c,.func (.func 112) #[] #[.pointer (some ⟨b,0,none⟩)]] w fun e w'=>e=.returned (ixV (xs.findIdx? fun x=>bl x.name==bl N))/\Below w.heap.size w w':=by
 have hb:b<w.heap.size:=World.block_lt_of_cell? w _ hc
 have hn63:n<=9223372036854775807:=by
  obtain⟨_,_,_,e,h1,_,h3,_⟩:=hV
  injection e with _ e2 _
  omega
 have nb:(n:Int)<=9223372036854775807:=by omega
 obtain⟨R,hR⟩:∃ R,xs.findIdx? (fun x=>bl x.name==bl N)=R:=⟨_,rfl⟩
 rw[hR]
 have HR:=zh hR
 have HV:=zh hV
 have HC:=zh (And.intro hb hc)
 clear hR hV hc hb hn63
 go_enter Tryz.func111,Tryz.ntmps111
 go_wp2
 go_loopw [8] (fun i wr=>∃ k:Nat,k<=n/\i=.int .i64 (k:Int)/\Hid ((xs.take k).findIdx? (fun x=>bl x.name==bl N)=none)/\Hid (Below w.heap.size w wr)) (fun i _=>(n - intOf i).toNat)
 case atStart=>exact⟨0,Nat.zero_le _,rfl,zh rfl,zh (Below.refl _ _)⟩
 case round=>
  obtain⟨k,hk,rfl,hN,hB⟩:=hrel
  by_cases hkn:k=n
  ·subst hkn
   have hR:=HR.out
   have hN:=hN.out
   rw[List.take_of_length_le (by omega)] at hN
   rw[hN] at hR
   subst hR
   clear hN HR HV HC
   go_wp2
   go_ret
   exact⟨rfl,hB.out⟩
  ·have hlt:k<n:=by omega
   have hi:(k:Int)<(n:Int):=by omega
   obtain⟨x,hx⟩:∃ x,xs[k]?=some x:=⟨_,List.getElem?_eq_getElem (by omega)⟩
   obtain⟨b0,off,vs,rfl,hlt0,_,hr,hp⟩:=HV.out.get hx
   obtain⟨v1,v2,v3,v4,rfl,_⟩:=hp
   have c0:wr.cell? ⟨b0,off+k*8,none⟩=some (.string x.name):=(hB.out.cell (p:=⟨b0,off+k*8,none⟩) hlt0).trans (hr 0 _ rfl)
   have c1:wr.cell? ⟨b0,off+k*8+1,none⟩=some (.int .i64 x.typ):=(hB.out.cell (p:=⟨b0,off+k*8+1,none⟩) hlt0).trans (hr 1 _ rfl)
   have c2:wr.cell? ⟨b0,off+k*8+2,none⟩=some (v1):=(hB.out.cell (p:=⟨b0,off+k*8+2,none⟩) hlt0).trans (hr 2 _ rfl)
   have c3:wr.cell? ⟨b0,off+k*8+3,none⟩=some (v2):=(hB.out.cell (p:=⟨b0,off+k*8+3,none⟩) hlt0).trans (hr 3 _ rfl)
   have c4:wr.cell? ⟨b0,off+k*8+4,none⟩=some (.string x.fill):=(hB.out.cell (p:=⟨b0,off+k*8+4,none⟩) hlt0).trans (hr 4 _ rfl)
   have c5:wr.cell? ⟨b0,off+k*8+5,none⟩=some (.string x.unit):=(hB.out.cell (p:=⟨b0,off+k*8+5,none⟩) hlt0).trans (hr 5 _ rfl)
   have c6:wr.cell? ⟨b0,off+k*8+6,none⟩=some (v3):=(hB.out.cell (p:=⟨b0,off+k*8+6,none⟩) hlt0).trans (hr 6 _ rfl)
   have c7:wr.cell? ⟨b0,off+k*8+7,none⟩=some (v4):=(hB.out.cell (p:=⟨b0,off+k*8+7,none⟩) hlt0).trans (hr 7 _ rfl)
   have CL:=yq8 x v1 v2 v3 v4 N b wr ((hB.out.cell (p:=⟨b,0,none⟩) HC.out.1).trans HC.out.2)
   have HX:=zh hx
   clear hx hr hkn
   cases hq:(bl x.name==bl N)
   ·rw[hq] at CL
    have HN:=zh (yko hN.out HX.out hq)
    clear hN HX hq
    go_wp2_with (go_at_call 112;(with_reducible refine CL.mono ?_);rintro e w1 ⟨rfl,hb⟩;have b1:=zh (yac hB.out hb);clear hb)
    go_roundw
    case rel=>exact⟨k+1,by omega,by go_num,HN,b1⟩
    case measure=>simp only[intOf];omega
   ·rw[hq] at CL
    have hR:=HR.out
    rw[yh2 hN.out HX.out hq] at hR
    subst hR
    clear hN HX hq
    go_wp2_with (go_at_call 112;(with_reducible refine CL.mono ?_);rintro e w1 ⟨rfl,hb⟩;have b1:=zh (yac hB.out hb);clear hb)
    go_ret
    exact⟨rfl,b1.out⟩
theorem ya3 (x:DimD) (w:World):Calls Tryz.prog 42 #[.agg #[.string x.name,.int .i64 x.size,.bool x.opn]] w fun e w'=>e=.returned (.string x.name)/\Below w.heap.size w w':=by
 go_enter Tryz.func42,Tryz.ntmps42
 go_wp2
 go_ret
 exact⟨rfl,by (repeat (first|exact zJ _ _|assumption|refine yab ?_ _|refine zL ?_|refine yac ?_ (by assumption)|refine yaa ?_ _))⟩
theorem ya6 (x:AttrD) (v:Value) (w:World):Calls Tryz.prog 77 #[.agg #[.string x.name,.int .i64 x.kind,.string x.text,v]] w fun e w'=>e=.returned (.string x.name)/\Below w.heap.size w w':=by
 go_enter Tryz.func77,Tryz.ntmps77
 go_wp2
 go_ret
 exact⟨rfl,by (repeat (first|exact zJ _ _|assumption|refine yab ?_ _|refine zL ?_|refine yac ?_ (by assumption)|refine yaa ?_ _))⟩
theorem ybf (x:VarD) (v1 v2 v3 v4:Value) (w:World):Calls Tryz.prog 44 #[.agg #[.string x.name,.int .i64 x.typ,v1,v2,.string x.fill,.string x.unit,v3,v4]] w fun e w'=>e=.returned (.string x.name)/\Below w.heap.size w w':=by
 go_enter Tryz.func44,Tryz.ntmps44
 go_wp2
 go_ret
 exact⟨rfl,by (repeat (first|exact zJ _ _|assumption|refine yab ?_ _|refine zL ?_|refine yac ?_ (by assumption)|refine yaa ?_ _))⟩
theorem ydv (v:Value) (xs:List GroupD) (N:ByteArray) (w:World) (hV:VSchema w w.heap.size v xs):Calls Tryz.prog 13 #[.agg #[v],.string N] w fun e w'=>e=.returned (ixV (xs.findIdx? fun x=>bl x.path==bl N))/\Below w.heap.size w w':=by
 obtain⟨A,n,c,rfl,hn,rest⟩:=id hV
 clear rest
 have CL:=fun (w1:World) (b:Nat) (hb:Below w.heap.size w w1)=>yn2 A n c b xs N w1 ((VL.keeps yah hV hb).lifts yai hb.size) hn
 clear hV
 generalize (xs.findIdx? fun x=>bl x.path==bl N)=R at *
 go_enter Tryz.func13,Tryz.ntmps13
 go_wp2_with (go_at_call 38;(with_reducible refine(CL _ _ (by (repeat (first|exact zJ _ _|assumption|refine yab ?_ _|refine zL ?_|refine yac ?_ (by assumption)|refine yaa ?_ _))) (by simp[go_sem])).mono ?_);rintro e w1 ⟨rfl,hb⟩)
 go_ret
 exact⟨rfl,by (repeat (first|exact zJ _ _|assumption|refine yab ?_ _|refine zL ?_|refine yac ?_ (by assumption)|refine yaa ?_ _))⟩
theorem ykh (p:ByteArray) (v v2 v3:Value) (xs:List DimD) (N:ByteArray) (w:World) (hV:VL kDim 3 w w.heap.size v xs):Calls Tryz.prog 32 #[.agg #[.string p,v,v2,v3],.string N] w fun e w'=>e=.returned (ixV (xs.findIdx? fun x=>bl x.name==bl N))/\Below w.heap.size w w':=by
 obtain⟨A,n,c,rfl,hn,rest⟩:=id hV
 clear rest
 have CL:=fun (w1:World) (b:Nat) (hb:Below w.heap.size w w1)=>yos A n c b xs N w1 ((VL.keeps ybh hV hb).lifts ya2 hb.size) hn
 clear hV
 generalize (xs.findIdx? fun x=>bl x.name==bl N)=R at *
 go_enter Tryz.func32,Tryz.ntmps32
 go_wp2_with (go_at_call 79;(with_reducible refine(CL _ _ (by (repeat (first|exact zJ _ _|assumption|refine yab ?_ _|refine zL ?_|refine yac ?_ (by assumption)|refine yaa ?_ _))) (by simp[go_sem])).mono ?_);rintro e w1 ⟨rfl,hb⟩)
 go_ret
 exact⟨rfl,by (repeat (first|exact zJ _ _|assumption|refine yab ?_ _|refine zL ?_|refine yac ?_ (by assumption)|refine yaa ?_ _))⟩
theorem yov (p:ByteArray) (v1 v v3:Value) (xs:List VarD) (N:ByteArray) (w:World) (hV:VL kVar 8 w w.heap.size v xs):Calls Tryz.prog 67 #[.agg #[.string p,v1,v,v3],.string N] w fun e w'=>e=.returned (ixV (xs.findIdx? fun x=>bl x.name==bl N))/\Below w.heap.size w w':=by
 obtain⟨A,n,c,rfl,hn,rest⟩:=id hV
 clear rest
 have CL:=fun (w1:World) (b:Nat) (hb:Below w.heap.size w w1)=>ypv A n c b xs N w1 ((VL.keeps ybd hV hb).lifts yb2 hb.size) hn
 clear hV
 generalize (xs.findIdx? fun x=>bl x.name==bl N)=R at *
 go_enter Tryz.func67,Tryz.ntmps67
 go_wp2_with (go_at_call 111;(with_reducible refine(CL _ _ (by (repeat (first|exact zJ _ _|assumption|refine yab ?_ _|refine zL ?_|refine yac ?_ (by assumption)|refine yaa ?_ _))) (by simp[go_sem])).mono ?_);rintro e w1 ⟨rfl,hb⟩)
 go_ret
 exact⟨rfl,by (repeat (first|exact zJ _ _|assumption|refine yab ?_ _|refine zL ?_|refine yac ?_ (by assumption)|refine yaa ?_ _))⟩
def isPt (c:UInt8):Bool:=decide (32<=c.toNat/\c.toNat<=126)
def isNum (x:ByteArray):Bool:=(num? (bl x)).isSome
theorem ybx {α:Type} {p:α->Bool} {l:List α} {k:Nat} {c:α} (hk:l[k]?=some c):(l.take (k+1)).all p=((l.take k).all p&&p c):=by
 rw[List.take_add_one,hk,List.all_append]
 simp
theorem yni (nm S:ByteArray) (L:List ByteArray):attrB ⟨nm,1,S,L⟩=((decide (S.size<=200)&&decide (L.length=0))&&(bl S).all isPt):=by
 rw[show attrB ⟨nm,1,S,L⟩=(textB (bl S)&&L.isEmpty) from if_pos rfl]
 unfold textB
 rw[yag,Bool.and_right_comm,show L.isEmpty=decide (L.length=0) by cases L<;>simp]
 rfl
theorem ynl (nm S:ByteArray) (L:List ByteArray):attrB ⟨nm,2,S,L⟩=(decide (1<=L.length/\L.length<=32/\bl S=[])&&L.all isNum):=by
 rw[show attrB ⟨nm,2,S,L⟩=if (2:Int)=2 then _ else false from if_neg (show ¬((2:Int)=1) by decide),if_pos rfl]
 rfl
theorem yki {nm S:ByteArray} {K:Int} {L:List ByteArray} (h1:K≠1) (h2:K≠2):attrB ⟨nm,K,S,L⟩=false:=(if_neg h1).trans (if_neg h2)
theorem yh4 (x:AttrD) (v:Value) (w:World) (hk:inI x.kind) (ht:okS x.text) (hv:VL kStr 1 w w.heap.size v x.nums) (hw:Wf w):Calls Tryz.prog 88 #[.agg #[.string x.name,.int .i64 x.kind,.string x.text,v]] w fun e w'=>e=.returned (.bool (attrB x))/\Below w.heap.size w w':=by
 obtain⟨nm,K,S,L⟩:=x
 dsimp only at *
 obtain⟨A,c,rfl,hc1,hc2⟩:=hv.val
 obtain⟨n,hn⟩:∃ n,L.length=n:=⟨_,rfl⟩
 rw[hn] at hv hc1 hc2 ⊢
 have nb:(n:Int)<=9223372036854775807:=by omega
 have sb:(S.size:Int)<=9223372036854775807:=by have:=(show S.size<=9223372036854775807 from ht);omega
 have HN:=zh hn
 have HV:=zh hv
 have HW:=zh hw
 have hes:S.toList.isEmpty=decide (bl S=[]):=emptyS S
 clear hv hw hc1 hc2 ht
 by_cases h1:K=1
 ·subst h1
  obtain⟨X,hX⟩:∃ X,attrB ⟨nm,1,S,L⟩=X:=⟨_,rfl⟩
  rw[hX]
  rw[yni,hn] at hX
  clear HN HV HW hn hes
  by_cases hs:S.size<=200
  ·have hs':(S.size:Int)<=200:=by omega
   by_cases hn0:n=0
   ·have hn1:(n:Int)=0:=by omega
    rw[decide_eq_true hs,decide_eq_true hn0] at hX
    have HE:=zh (show (bl S).all isPt=X from hX)
    clear hX hs hn0
    go_enter Tryz.func88,Tryz.ntmps88
    go_wp2
    go_loopw [3,25] (fun v i wr=>∃ k:Nat,k<=S.size/\i=.int .i64 (k:Int)/\v=.bool (((bl S).take k).all isPt)/\(w.alloc (.cells #[.string nm,.int .i64 1,.string S,.slice A n c] 43))=wr) (fun _ i _=>(S.size - intOf i).toNat)
    case atStart=>exact⟨0,Nat.zero_le _,rfl,rfl,rfl⟩
    case round=>
     obtain⟨k,hk,rfl,rfl,rfl⟩:=hrel
     obtain⟨a,ha⟩:∃ a,((bl S).take k).all isPt=a:=⟨_,rfl⟩
     have HA:=zh ha
     rw[ha]
     clear ha
     by_cases hkn:k=S.size
     ·have hx:a=X:=by
       have:=HA.out
       rw[hkn,List.take_of_length_le (by rw[yag];exact Nat.le_refl _)] at this
       rw[<- this]
       exact HE.out
      subst hkn
      subst hx
      clear HA HE
      go_wp2
      go_ret
      exact⟨rfl,by (repeat (first|exact zJ _ _|assumption|refine yab ?_ _|refine zL ?_|refine yac ?_ (by assumption)|refine yaa ?_ _))⟩
     ·have hlt:k<S.size:=by omega
      have hi:(k:Int)<(S.size:Int):=by omega
      have hb:=zh (bl_at S k hlt)
      clear HE
      cases a
      ·have hp:(false&&isPt S[k])=false:=rfl
       have hp:=zh hp
       go_wp2
       go_roundw
       case rel=>exact⟨k+1,by omega,by go_num,by rw[ybx hb.out,HA.out,hp.out],by first|rfl|trivial⟩
       case measure=>simp only[intOf];omega
      ·by_cases h32:(32:Int)<=(S[k].toNat:Int)
       ·by_cases h126:(S[k].toNat:Int)<=126
        ·have hp:=zh (show (true&&isPt S[k])=true by unfold isPt;rw[decide_eq_true (by omega)];rfl)
         go_wp2
         go_roundw
         case rel=>exact⟨k+1,by omega,by go_num,by rw[ybx hb.out,HA.out,hp.out],by first|rfl|trivial⟩
         case measure=>simp only[intOf];omega
        ·have hp:=zh (show (true&&isPt S[k])=false by unfold isPt;rw[decide_eq_false (by omega)];rfl)
         go_wp2
         go_roundw
         case rel=>exact⟨k+1,by omega,by go_num,by rw[ybx hb.out,HA.out,hp.out],by first|rfl|trivial⟩
         case measure=>simp only[intOf];omega
       ·have hp:=zh (show (true&&isPt S[k])=false by unfold isPt;rw[decide_eq_false (by omega)];rfl)
        go_wp2
        go_roundw
        case rel=>exact⟨k+1,by omega,by go_num,by rw[ybx hb.out,HA.out,hp.out],by first|rfl|trivial⟩
        case measure=>simp only[intOf];omega
   ·have hn1:((n:Int)==0)=false:=by rw[beq_eq_false_iff_ne];omega
    rw[decide_eq_false hn0,Bool.and_false,Bool.false_and] at hX
    subst hX
    clear hs hn0
    go_enter Tryz.func88,Tryz.ntmps88
    go_wp2
    go_loopw [3,25] (fun v i wr=>∃ k:Nat,k<=S.size/\i=.int .i64 (k:Int)/\v=.bool false/\(w.alloc (.cells #[.string nm,.int .i64 1,.string S,.slice A n c] 43))=wr) (fun _ i _=>(S.size - intOf i).toNat)
    case atStart=>exact⟨0,Nat.zero_le _,rfl,rfl,rfl⟩
    case round=>
     obtain⟨k,hk,rfl,rfl,rfl⟩:=hrel
     by_cases hkn:k=S.size
     ·subst hkn
      go_wp2
      go_ret
      exact⟨rfl,by (repeat (first|exact zJ _ _|assumption|refine yab ?_ _|refine zL ?_|refine yac ?_ (by assumption)|refine yaa ?_ _))⟩
     ·have hi:(k:Int)<(S.size:Int):=by omega
      go_wp2
      go_roundw
      case rel=>exact⟨k+1,by omega,by go_num,rfl,by first|rfl|trivial⟩
      case measure=>simp only[intOf];omega
  ·have hs':¬(S.size:Int)<=200:=by omega
   rw[decide_eq_false hs,Bool.false_and,Bool.false_and] at hX
   subst hX
   clear hs
   go_enter Tryz.func88,Tryz.ntmps88
   go_wp2
   go_loopw [3,25] (fun v i wr=>∃ k:Nat,k<=S.size/\i=.int .i64 (k:Int)/\v=.bool false/\(w.alloc (.cells #[.string nm,.int .i64 1,.string S,.slice A n c] 43))=wr) (fun _ i _=>(S.size - intOf i).toNat)
   case atStart=>exact⟨0,Nat.zero_le _,rfl,rfl,rfl⟩
   case round=>
    obtain⟨k,hk,rfl,rfl,rfl⟩:=hrel
    by_cases hkn:k=S.size
    ·subst hkn
     go_wp2
     go_ret
     exact⟨rfl,by (repeat (first|exact zJ _ _|assumption|refine yab ?_ _|refine zL ?_|refine yac ?_ (by assumption)|refine yaa ?_ _))⟩
    ·have hi:(k:Int)<(S.size:Int):=by omega
     go_wp2
     go_roundw
     case rel=>exact⟨k+1,by omega,by go_num,rfl,by first|rfl|trivial⟩
     case measure=>simp only[intOf];omega
 by_cases h2:K=2
 ·subst h2
  clear h1
  obtain⟨X,hX⟩:∃ X,attrB ⟨nm,2,S,L⟩=X:=⟨_,rfl⟩
  rw[hX]
  rw[ynl,hn] at hX
  clear hn
  by_cases hn1:(1:Int)<=(n:Int)
  ·by_cases hn2:(n:Int)<=32
   ·by_cases hS:bl S=[]
    ·rw[decide_eq_true hS] at hes
     rw[decide_eq_true ⟨by omega,by omega,hS⟩,Bool.true_and] at hX
     have HE:=zh hX
     clear hX hS
     go_enter Tryz.func88,Tryz.ntmps88
     go_wp2
     go_loopw [5,65] (fun v i wr=>∃ k:Nat,k<=n/\i=.int .i64 (k:Int)/\v=.bool ((L.take k).all isNum)/\Hid (Below w.heap.size w wr)) (fun _ i _=>(n - intOf i).toNat)
     case atStart=>exact⟨0,Nat.zero_le _,rfl,rfl,zh (by (repeat (first|exact zJ _ _|assumption|refine yab ?_ _|refine zL ?_|refine yac ?_ (by assumption)|refine yaa ?_ _)))⟩
     case round=>
      obtain⟨k,hk,rfl,rfl,hB⟩:=hrel
      obtain⟨a,ha⟩:∃ a,(L.take k).all isNum=a:=⟨_,rfl⟩
      have HA:=zh ha
      rw[ha]
      clear ha
      by_cases hkn:k=n
      ·have hx:a=X:=by
        have:=HA.out
        rw[hkn,List.take_of_length_le (by have:=HN.out;omega)] at this
        rw[<- this]
        exact HE.out
       subst hkn
       subst hx
       clear HA HE HV
       go_wp2
       go_ret
       exact⟨rfl,hB.out⟩
      ·have hlt:k<n:=by omega
       have hi:(k:Int)<(n:Int):=by omega
       obtain⟨x,hx⟩:∃ x,L[k]?=some x:=⟨_,List.getElem?_eq_getElem (by have:=HN.out;omega)⟩
       obtain⟨b0,off,vs,rfl,hb0,_,hr,hp⟩:=HV.out.get hx
       obtain⟨rfl,hxs⟩:=hp
       have c0:wr.cell? ⟨b0,off+k,none⟩=some (.string x):=by
        have:=hr 0 _ rfl
        rw[Nat.mul_one,Nat.add_zero] at this
        exact(hB.out.cell (p:=⟨b0,off+k,none⟩) hb0).trans this
       have hn2:=zh (ybx (p:=isNum) hx)
       have QV:=yb8 x hxs wr (HW.out.up hB.out)
       clear hx hr HE
       obtain⟨q,hq⟩:∃ q,(num? (bl x)).isSome=q:=⟨_,rfl⟩
       rw[hq] at QV
       have HQ:=zh (show isNum x=q from hq)
       clear hq
       cases a
       ·go_wp2
        go_roundw
        case rel=>exact⟨k+1,by omega,by go_num,by rw[hn2.out,HA.out];rfl,hB⟩
        case measure=>simp only[intOf];omega
       ·go_wp2_with (go_at_call 133;(with_reducible refine QV.mono ?_);rintro e w1 ⟨rfl,hb⟩;have b1:=zh (yac hB.out hb);clear hb)
        go_roundw
        case rel=>exact⟨k+1,by omega,by go_num,by rw[hn2.out,HA.out,HQ.out];rfl,b1⟩
        case measure=>simp only[intOf];omega
    ·rw[decide_eq_false hS] at hes
     rw[decide_eq_false (fun h=>hS h.2.2),Bool.false_and] at hX
     subst hX
     clear hS
     go_enter Tryz.func88,Tryz.ntmps88
     go_wp2
     go_loopw [5,65] (fun v i wr=>∃ k:Nat,k<=n/\i=.int .i64 (k:Int)/\v=.bool false/\Hid (Below w.heap.size w wr)) (fun _ i _=>(n - intOf i).toNat)
     case atStart=>exact⟨0,Nat.zero_le _,rfl,rfl,zh (by (repeat (first|exact zJ _ _|assumption|refine yab ?_ _|refine zL ?_|refine yac ?_ (by assumption)|refine yaa ?_ _)))⟩
     case round=>
      obtain⟨k,hk,rfl,rfl,hB⟩:=hrel
      by_cases hkn:k=n
      ·subst hkn
       clear HV
       go_wp2
       go_ret
       exact⟨rfl,hB.out⟩
      ·have hlt:k<n:=by omega
       have hi:(k:Int)<(n:Int):=by omega
       obtain⟨x,hx⟩:∃ x,L[k]?=some x:=⟨_,List.getElem?_eq_getElem (by have:=HN.out;omega)⟩
       obtain⟨b0,off,vs,rfl,hb0,_,hr,hp⟩:=HV.out.get hx
       obtain⟨rfl,hxs⟩:=hp
       have c0:wr.cell? ⟨b0,off+k,none⟩=some (.string x):=by
        have:=hr 0 _ rfl
        rw[Nat.mul_one,Nat.add_zero] at this
        exact(hB.out.cell (p:=⟨b0,off+k,none⟩) hb0).trans this
       clear hx hr
       go_wp2
       go_roundw
       case rel=>exact⟨k+1,by omega,by go_num,rfl,hB⟩
       case measure=>simp only[intOf];omega
   ·rw[decide_eq_false (fun h=>hn2 (by omega)),Bool.false_and] at hX
    subst hX
    clear hes
    go_enter Tryz.func88,Tryz.ntmps88
    go_wp2
    go_loopw [5,65] (fun v i wr=>∃ k:Nat,k<=n/\i=.int .i64 (k:Int)/\v=.bool false/\Hid (Below w.heap.size w wr)) (fun _ i _=>(n - intOf i).toNat)
    case atStart=>exact⟨0,Nat.zero_le _,rfl,rfl,zh (by (repeat (first|exact zJ _ _|assumption|refine yab ?_ _|refine zL ?_|refine yac ?_ (by assumption)|refine yaa ?_ _)))⟩
    case round=>
     obtain⟨k,hk,rfl,rfl,hB⟩:=hrel
     by_cases hkn:k=n
     ·subst hkn
      clear HV
      go_wp2
      go_ret
      exact⟨rfl,hB.out⟩
     ·have hlt:k<n:=by omega
      have hi:(k:Int)<(n:Int):=by omega
      obtain⟨x,hx⟩:∃ x,L[k]?=some x:=⟨_,List.getElem?_eq_getElem (by have:=HN.out;omega)⟩
      obtain⟨b0,off,vs,rfl,hb0,_,hr,hp⟩:=HV.out.get hx
      obtain⟨rfl,hxs⟩:=hp
      have c0:wr.cell? ⟨b0,off+k,none⟩=some (.string x):=by
       have:=hr 0 _ rfl
       rw[Nat.mul_one,Nat.add_zero] at this
       exact(hB.out.cell (p:=⟨b0,off+k,none⟩) hb0).trans this
      clear hx hr
      go_wp2
      go_roundw
      case rel=>exact⟨k+1,by omega,by go_num,rfl,hB⟩
      case measure=>simp only[intOf];omega
  ·rw[decide_eq_false (fun h=>hn1 (by omega)),Bool.false_and] at hX
   subst hX
   clear hes
   go_enter Tryz.func88,Tryz.ntmps88
   go_wp2
   go_loopw [5,65] (fun v i wr=>∃ k:Nat,k<=n/\i=.int .i64 (k:Int)/\v=.bool false/\Hid (Below w.heap.size w wr)) (fun _ i _=>(n - intOf i).toNat)
   case atStart=>exact⟨0,Nat.zero_le _,rfl,rfl,zh (by (repeat (first|exact zJ _ _|assumption|refine yab ?_ _|refine zL ?_|refine yac ?_ (by assumption)|refine yaa ?_ _)))⟩
   case round=>
    obtain⟨k,hk,rfl,rfl,hB⟩:=hrel
    by_cases hkn:k=n
    ·subst hkn
     clear HV
     go_wp2
     go_ret
     exact⟨rfl,hB.out⟩
    ·have hlt:k<n:=by omega
     have hi:(k:Int)<(n:Int):=by omega
     obtain⟨x,hx⟩:∃ x,L[k]?=some x:=⟨_,List.getElem?_eq_getElem (by have:=HN.out;omega)⟩
     obtain⟨b0,off,vs,rfl,hb0,_,hr,hp⟩:=HV.out.get hx
     obtain⟨rfl,hxs⟩:=hp
     have c0:wr.cell? ⟨b0,off+k,none⟩=some (.string x):=by
      have:=hr 0 _ rfl
      rw[Nat.mul_one,Nat.add_zero] at this
      exact(hB.out.cell (p:=⟨b0,off+k,none⟩) hb0).trans this
     clear hx hr
     go_wp2
     go_roundw
     case rel=>exact⟨k+1,by omega,by go_num,rfl,hB⟩
     case measure=>simp only[intOf];omega
 ·rw[yki h1 h2]
  clear HN HV HW hn hes
  go_enter Tryz.func88,Tryz.ntmps88
  go_wp2
  go_ret
  exact⟨rfl,by (repeat (first|exact zJ _ _|assumption|refine yab ?_ _|refine zL ?_|refine yac ?_ (by assumption)|refine yaa ?_ _))⟩
theorem ykr (A:Option Addr) (n c most:Nat) (xs:List AttrD) (w:World) (hV:VL kAttr 4 w w.heap.size (.slice A n c) xs) (hn:xs.length=n) (hm:most<=1000):Calls Tryz.prog 89 #[.slice A n c,.int .i64 (most:Int),.func (.func 77) #[] #[]] w fun e w'=>e=.returned (.bool (ascB most (xs.map fun x=>bl x.name)))/\Below w.heap.size w w':=by
 have hn63:n<=9223372036854775807:=by
  obtain⟨_,_,_,e,h1,_,h3,_⟩:=hV
  injection e with _ e2 _
  omega
 have nb:(n:Int)<=9223372036854775807:=by omega
 have mb:(most:Int)<=1000:=by omega
 have HV:=zh hV
 have VN:=fun S hs w'=>yd4 S hs w'
 have nl:(xs.map fun x=>bl x.name).length=n:=by rw[List.length_map,hn]
 obtain⟨R,hR⟩:∃ R,ascB most (xs.map fun x=>bl x.name)=R:=⟨_,rfl⟩
 rw[hR]
 have HR:=zh hR
 have HE:=zh (show ascP (xs.map fun x=>bl x.name)=true->R=decide (n<=most) from fun h=>by rw[<- hR,yiq h,nl])
 have NL:=zh nl
 clear hV hn63 hR nl
 go_enter Tryz.func89,Tryz.ntmps89
 go_wp2
 go_loopw [11] (fun i wr=>∃ k:Nat,k<=n/\i=.int .i64 (k:Int)/\Hid (ascP ((xs.map fun x=>bl x.name).take k)=true)/\Hid (Below w.heap.size w wr)) (fun i _=>(n - intOf i).toNat)
 case atStart=>exact⟨0,Nat.zero_le _,rfl,zh rfl,zh (Below.refl _ _)⟩
 case round=>
  obtain⟨k,hk,rfl,hA,hB⟩:=hrel
  by_cases hkn:k=n
  ·subst hkn
   have hE:=HE.out (by have:=hA.out;rwa [List.take_of_length_le (by rw[NL.out];exact Nat.le_refl _)] at this)
   by_cases hle:k<=most
   ·have hi:(k:Int)<=(most:Int):=by omega
    rw[decide_eq_true hle] at hE
    subst hE
    clear HV VN HR HE NL hA hle
    go_wp2
    go_ret
    exact⟨rfl,hB.out⟩
   ·have hi:¬(k:Int)<=(most:Int):=by omega
    rw[decide_eq_false hle] at hE
    subst hE
    clear HV VN HR HE NL hA hle
    go_wp2
    go_ret
    exact⟨rfl,hB.out⟩
  ·have hlt:k<n:=by omega
   have hi:(k:Int)<(n:Int):=by omega
   obtain⟨x,hx⟩:∃ x,xs[k]?=some x:=⟨_,List.getElem?_eq_getElem (by omega)⟩
   have hx2:(xs.map fun x=>bl x.name)[k]?=some (bl x.name):=by rw[List.getElem?_map,hx];rfl
   obtain⟨b0,off,vs,rfl,hb00,_,hr,hp⟩:=HV.out.get hx
   have hwz:w.heap.size<=wr.heap.size:=hB.out.size
   have hb0:b0<wr.heap.size:=Nat.lt_of_lt_of_le hb00 hwz
   obtain⟨v1,rfl,hov,_,_,lv1⟩:=hp
   obtain⟨Av1,cv1,rfl,_,_⟩:=lv1.val
   have c0:wr.cell? ⟨b0,off+k*4,none⟩=some (.string x.name):=(hB.out.cell (p:=⟨b0,off+k*4,none⟩) hb00).trans (hr 0 _ rfl)
   have c1:wr.cell? ⟨b0,off+k*4+1,none⟩=some (.int .i64 x.kind):=(hB.out.cell (p:=⟨b0,off+k*4+1,none⟩) hb00).trans (hr 1 _ rfl)
   have c2:wr.cell? ⟨b0,off+k*4+2,none⟩=some (.string x.text):=(hB.out.cell (p:=⟨b0,off+k*4+2,none⟩) hb00).trans (hr 2 _ rfl)
   have c3:wr.cell? ⟨b0,off+k*4+3,none⟩=some (.slice Av1 x.nums.length cv1):=(hB.out.cell (p:=⟨b0,off+k*4+3,none⟩) hb00).trans (hr 3 _ rfl)
   have VN:=VN x.name hov
   cases hq:nameB (bl x.name)
   ·rw[hq] at VN
    have hX:=(yih (most:=most) hx2 hq).symm.trans HR.out
    subst hX
    clear HV HR HE NL hA hx hx2 hr hq
    go_wp2_with fail
    refine wp_region_noPanic ?_
    refine wp_region_held_drew (S:=fun w'=>w'.rangeAt wr.heap.size 0 [.string x.name,.int .i64 x.kind,.string x.text,.slice Av1 x.nums.length cv1]/\Below wr.heap.size wr w') (by kernel_rfl) ⟨row4 (⟨by go_keep,by go_keep,by go_keep,by go_keep⟩),by (repeat (first|exact zJ _ _|assumption|refine yab ?_ _|refine zL ?_|refine yac ?_ (by assumption)|refine yaa ?_ _))⟩ (fun hHeld=>?_)
    refine tRun [(0,16,some (.func (.func 77) #[] #[]))] hHeld (by kernel_rfl) ?_
    simp only[runA,Act.put,zB,zC,zD]
    refine tLoad 1 17 43 (.tmp 8) wr.heap.size 0 [.string x.name,.int .i64 x.kind,.string x.text,.slice Av1 x.nums.length cv1] hHeld (by kernel_rfl) (by kernel_rfl) rfl (fun w' hw'=>hw'.1) Tryz.underlying43 rfl (by kernel_rfl) ?_
    simp only[Act.put,zB,zC,zD]
    refine tEnter 2 18 77 #[.agg #[.string x.name,.int .i64 x.kind,.string x.text,.slice Av1 x.nums.length cv1]] (by kernel_rfl) (by kernel_rfl) (by kernel_rfl) (ya6 x (.slice Av1 x.nums.length cv1) _) ?_
    rintro e w1 ⟨rfl,hb⟩
    refine⟨_,rfl,⟨yad hHeld.1 hb (World.block_lt_of_cell? _ _ (hHeld.1 0 _ rfl)),yac hHeld.2 hb⟩,fun hHeld=>?_⟩
    simp only[Act.put,zB,zC,zD]
    clear hb
    refine tEnter 3 19 36 #[.string x.name] (by kernel_rfl) (by kernel_rfl) (by kernel_rfl) (VN _) ?_
    rintro e w2 ⟨rfl,rfl⟩
    refine⟨_,rfl,hHeld,fun hHeld=>?_⟩
    simp only[Act.put,zB,zC,zD]
    refine tRun ((4,20,some (.bool true))::(5,21,some (.bool true))::(noR 6 22 15 [(21,37,some (.bool true))])) hHeld (by kernel_rfl) ?_
    simp only[runA,noR,Act.put,zB,zC,zD]
    refine wpAnyH_done (by kernel_rfl) (tNoP ?_) _
    have b2:=zh hHeld.2
    clear hHeld
    go_wp2
    go_ret
    exact⟨rfl,yac hB.out b2.out⟩
   ·rw[hq] at VN
    rcases Nat.eq_zero_or_pos k with hk0|hk0
    ·have hj0:¬(0:Int)<(k:Int):=by omega
     have HN:=zh (yfn hA.out hx2 hq (fun j b h _=>by omega))
     clear HV HR HE hA hx hx2 hr hq hk0
     go_wp2_with fail
     refine wp_region_noPanic ?_
     refine wp_region_held_drew (S:=fun w'=>w'.rangeAt wr.heap.size 0 [.string x.name,.int .i64 x.kind,.string x.text,.slice Av1 x.nums.length cv1]/\Below wr.heap.size wr w') (by kernel_rfl) ⟨row4 (⟨by go_keep,by go_keep,by go_keep,by go_keep⟩),by (repeat (first|exact zJ _ _|assumption|refine yab ?_ _|refine zL ?_|refine yac ?_ (by assumption)|refine yaa ?_ _))⟩ (fun hHeld=>?_)
     refine tRun [(0,16,some (.func (.func 77) #[] #[]))] hHeld (by kernel_rfl) ?_
     simp only[runA,Act.put,zB,zC,zD]
     refine tLoad 1 17 43 (.tmp 8) wr.heap.size 0 [.string x.name,.int .i64 x.kind,.string x.text,.slice Av1 x.nums.length cv1] hHeld (by kernel_rfl) (by kernel_rfl) rfl (fun w' hw'=>hw'.1) Tryz.underlying43 rfl (by kernel_rfl) ?_
     simp only[Act.put,zB,zC,zD]
     refine tEnter 2 18 77 #[.agg #[.string x.name,.int .i64 x.kind,.string x.text,.slice Av1 x.nums.length cv1]] (by kernel_rfl) (by kernel_rfl) (by kernel_rfl) (ya6 x (.slice Av1 x.nums.length cv1) _) ?_
     rintro e w1 ⟨rfl,hb⟩
     refine⟨_,rfl,⟨yad hHeld.1 hb (World.block_lt_of_cell? _ _ (hHeld.1 0 _ rfl)),yac hHeld.2 hb⟩,fun hHeld=>?_⟩
     simp only[Act.put,zB,zC,zD]
     clear hb
     refine tEnter 3 19 36 #[.string x.name] (by kernel_rfl) (by kernel_rfl) (by kernel_rfl) (VN _) ?_
     rintro e w2 ⟨rfl,rfl⟩
     refine⟨_,rfl,hHeld,fun hHeld=>?_⟩
     simp only[Act.put,zB,zC,zD]
     refine tRun [(4,20,some (.bool false)),(5,21,some (.bool false)),(6,22,some (.int .i64 (k:Int)))] hHeld (by kernel_rfl) ?_
     simp only[runA,Act.put,zB,zC,zD]
     refine tVal 7 23 (.bool false) hHeld (by kernel_rfl) (fun w' hSw=>?_) ?_
     ·simp only[zE,zF,zG,zH,zI];first|(go_simp;done)|(with_reducible rfl)|(go_simp;omega)
     simp only[Act.put,zB,zC,zD]
     refine tRun ((8,24,some (.bool false))::(noR 9 25 11 [(20,36,some (.bool false)),(21,37,some (.bool false))])) hHeld (by kernel_rfl) ?_
     simp only[runA,noR,Act.put,zB,zC,zD]
     refine wpAnyH_done (by kernel_rfl) (tNoP ?_) _
     have b2:=zh hHeld.2
     clear hHeld
     go_wp2
     go_roundw
     case rel=>exact⟨k+1,by omega,by go_num,HN,zh (yac hB.out b2.out)⟩
     case measure=>simp only[intOf];omega
    ·obtain⟨j,hjk⟩:∃ j,k=j+1:=⟨k - 1,by omega⟩
     obtain⟨y,hy⟩:∃ y,xs[j]?=some y:=⟨_,List.getElem?_eq_getElem (by omega)⟩
     have hy2:(xs.map fun x=>bl x.name)[j]?=some (bl y.name):=by rw[List.getElem?_map,hy];rfl
     obtain⟨b1,off1,vs1,e1,_,_,ry,hp1⟩:=HV.out.get hy
     injection e1 with e1
     injection e1 with e1 e2
     subst e1 e2
     obtain⟨u1,rfl,hou,_,_,lu1⟩:=hp1
     obtain⟨Au1,cu1,rfl,_,_⟩:=lu1.val
     have ry:=yad ry hB.out hb00
     have hj0:(0:Int)<(k:Int):=by omega
     have hj1:IntKind.i64.wrap ((k:Int) - 1)=(j:Int):=by rw[IntWalk.i64_in _ (by omega)];omega
     have hj2:j<n:=by omega
     have hjn:(j:Int)<(n:Int):=by omega
     have ew:Op.bytesLess y.name.toList x.name.toList=Op.bytesLess (bl y.name) (bl x.name):=by rw[Lib.toList_data,Lib.toList_data];rfl
     cases hl:Op.bytesLess (bl y.name) (bl x.name)
     ·rw[hl] at ew
      have hX:=(yic (most:=most) hy2 (hjk▸hx2) hl).symm.trans HR.out
      subst hX
      clear HV HR HE NL hA hx hx2 hr hq hy hy2 hl hjk hk0
      go_wp2_with fail
      refine wp_region_noPanic ?_
      refine wp_region_held_drew (S:=fun w'=>w'.rangeAt wr.heap.size 0 [.string x.name,.int .i64 x.kind,.string x.text,.slice Av1 x.nums.length cv1]/\Below wr.heap.size wr w') (by kernel_rfl) ⟨row4 (⟨by go_keep,by go_keep,by go_keep,by go_keep⟩),by (repeat (first|exact zJ _ _|assumption|refine yab ?_ _|refine zL ?_|refine yac ?_ (by assumption)|refine yaa ?_ _))⟩ (fun hHeld=>?_)
      refine tRun [(0,16,some (.func (.func 77) #[] #[]))] hHeld (by kernel_rfl) ?_
      simp only[runA,Act.put,zB,zC,zD]
      refine tLoad 1 17 43 (.tmp 8) wr.heap.size 0 [.string x.name,.int .i64 x.kind,.string x.text,.slice Av1 x.nums.length cv1] hHeld (by kernel_rfl) (by kernel_rfl) rfl (fun w' hw'=>hw'.1) Tryz.underlying43 rfl (by kernel_rfl) ?_
      simp only[Act.put,zB,zC,zD]
      refine tEnter 2 18 77 #[.agg #[.string x.name,.int .i64 x.kind,.string x.text,.slice Av1 x.nums.length cv1]] (by kernel_rfl) (by kernel_rfl) (by kernel_rfl) (ya6 x (.slice Av1 x.nums.length cv1) _) ?_
      rintro e w1 ⟨rfl,hb⟩
      refine⟨_,rfl,⟨yad hHeld.1 hb (World.block_lt_of_cell? _ _ (hHeld.1 0 _ rfl)),yac hHeld.2 hb⟩,fun hHeld=>?_⟩
      simp only[Act.put,zB,zC,zD]
      clear hb
      refine tEnter 3 19 36 #[.string x.name] (by kernel_rfl) (by kernel_rfl) (by kernel_rfl) (VN _) ?_
      rintro e w2 ⟨rfl,rfl⟩
      refine⟨_,rfl,hHeld,fun hHeld=>?_⟩
      simp only[Act.put,zB,zC,zD]
      refine tRun [(4,20,some (.bool false)),(5,21,some (.bool false)),(6,22,some (.int .i64 (k:Int)))] hHeld (by kernel_rfl) ?_
      simp only[runA,Act.put,zB,zC,zD]
      refine tVal 7 23 (.bool true) hHeld (by kernel_rfl) (fun w' hSw=>?_) ?_
      ·simp only[zE,zF,zG,zH,zI];first|(go_simp;done)|(with_reducible rfl)|(go_simp;omega)
      simp only[Act.put,zB,zC,zD]
      refine tRun [(8,24,some (.bool true)),(9,25,some (.func (.func 77) #[] #[])),(10,26,some (.slice (some ⟨b0,off,none⟩) n c)),(11,27,some (.int .i64 (k:Int)))] hHeld (by kernel_rfl) ?_
      simp only[runA,Act.put,zB,zC,zD]
      refine tVal 12 28 (.int .i64 (j:Int)) hHeld (by kernel_rfl) (fun w' hSw=>?_) ?_
      ·simp only[zE,zF,zG,zH,zI];first|(go_simp;done)|(with_reducible rfl)|(go_simp;omega)
      simp only[Act.put,zB,zC,zD]
      refine tVal 13 29 (.pointer (some ⟨b0,off+j*4,none⟩)) hHeld (by kernel_rfl) (fun w' hSw=>?_) ?_
      ·simp only[zE,zF,zG,zH,zI];first|(go_simp;done)|(with_reducible rfl)|(go_simp;omega)
      simp only[Act.put,zB,zC,zD]
      refine tLoad 14 30 43 (.tmp 29) b0 (off+j*4) [.string y.name,.int .i64 y.kind,.string y.text,.slice Au1 y.nums.length cu1] hHeld (by kernel_rfl) (by kernel_rfl) rfl (fun w' hw'=>yad ry hw'.2 hb0) Tryz.underlying43 rfl (by kernel_rfl) ?_
      simp only[Act.put,zB,zC,zD]
      refine tRun [(16,32,some (.func (.func 77) #[] #[]))] hHeld (by kernel_rfl) ?_
      simp only[runA,Act.put,zB,zC,zD]
      refine tLoad 17 33 43 (.tmp 8) wr.heap.size 0 [.string x.name,.int .i64 x.kind,.string x.text,.slice Av1 x.nums.length cv1] hHeld (by kernel_rfl) (by kernel_rfl) rfl (fun w' hw'=>hw'.1) Tryz.underlying43 rfl (by kernel_rfl) ?_
      simp only[Act.put,zB,zC,zD]
      refine tEnter 15 31 77 #[.agg #[.string y.name,.int .i64 y.kind,.string y.text,.slice Au1 y.nums.length cu1]] (by kernel_rfl) (by kernel_rfl) (by kernel_rfl) (ya6 y (.slice Au1 y.nums.length cu1) _) ?_
      rintro e w1 ⟨rfl,hb⟩
      refine⟨_,rfl,⟨yad hHeld.1 hb (World.block_lt_of_cell? _ _ (hHeld.1 0 _ rfl)),yac hHeld.2 hb⟩,fun hHeld=>?_⟩
      simp only[Act.put,zB,zC,zD]
      clear hb
      refine tEnter 18 34 77 #[.agg #[.string x.name,.int .i64 x.kind,.string x.text,.slice Av1 x.nums.length cv1]] (by kernel_rfl) (by kernel_rfl) (by kernel_rfl) (ya6 x (.slice Av1 x.nums.length cv1) _) ?_
      rintro e w1 ⟨rfl,hb⟩
      refine⟨_,rfl,⟨yad hHeld.1 hb (World.block_lt_of_cell? _ _ (hHeld.1 0 _ rfl)),yac hHeld.2 hb⟩,fun hHeld=>?_⟩
      simp only[Act.put,zB,zC,zD]
      clear hb
      refine tVal 19 35 (.bool true) hHeld (by kernel_rfl) (fun w' hSw=>?_) ?_
      ·simp only[zE,zF,zG,zH,zI];first|(go_simp;done)|(with_reducible rfl)|(go_simp;omega)
      simp only[Act.put,zB,zC,zD]
      refine tRun [(20,36,some (.bool true)),(21,37,some (.bool true))] hHeld (by kernel_rfl) ?_
      simp only[runA,Act.put,zB,zC,zD]
      refine wpAnyH_done (by kernel_rfl) (tNoP ?_) _
      have b2:=zh hHeld.2
      clear hHeld
      go_wp2
      go_ret
      exact⟨rfl,yac hB.out b2.out⟩
     ·rw[hl] at ew
      have HN:=zh (yfn hA.out hx2 hq (fun i b h hb=>by
       have:i=j:=by omega
       subst this
       rw[hy2] at hb
       injection hb with hb
       rw[<- hb];exact hl))
      clear HV HR HE hA hx hx2 hr hq hy hy2 hl hjk hk0
      go_wp2_with fail
      refine wp_region_noPanic ?_
      refine wp_region_held_drew (S:=fun w'=>w'.rangeAt wr.heap.size 0 [.string x.name,.int .i64 x.kind,.string x.text,.slice Av1 x.nums.length cv1]/\Below wr.heap.size wr w') (by kernel_rfl) ⟨row4 (⟨by go_keep,by go_keep,by go_keep,by go_keep⟩),by (repeat (first|exact zJ _ _|assumption|refine yab ?_ _|refine zL ?_|refine yac ?_ (by assumption)|refine yaa ?_ _))⟩ (fun hHeld=>?_)
      refine tRun [(0,16,some (.func (.func 77) #[] #[]))] hHeld (by kernel_rfl) ?_
      simp only[runA,Act.put,zB,zC,zD]
      refine tLoad 1 17 43 (.tmp 8) wr.heap.size 0 [.string x.name,.int .i64 x.kind,.string x.text,.slice Av1 x.nums.length cv1] hHeld (by kernel_rfl) (by kernel_rfl) rfl (fun w' hw'=>hw'.1) Tryz.underlying43 rfl (by kernel_rfl) ?_
      simp only[Act.put,zB,zC,zD]
      refine tEnter 2 18 77 #[.agg #[.string x.name,.int .i64 x.kind,.string x.text,.slice Av1 x.nums.length cv1]] (by kernel_rfl) (by kernel_rfl) (by kernel_rfl) (ya6 x (.slice Av1 x.nums.length cv1) _) ?_
      rintro e w1 ⟨rfl,hb⟩
      refine⟨_,rfl,⟨yad hHeld.1 hb (World.block_lt_of_cell? _ _ (hHeld.1 0 _ rfl)),yac hHeld.2 hb⟩,fun hHeld=>?_⟩
      simp only[Act.put,zB,zC,zD]
      clear hb
      refine tEnter 3 19 36 #[.string x.name] (by kernel_rfl) (by kernel_rfl) (by kernel_rfl) (VN _) ?_
      rintro e w2 ⟨rfl,rfl⟩
      refine⟨_,rfl,hHeld,fun hHeld=>?_⟩
      simp only[Act.put,zB,zC,zD]
      refine tRun [(4,20,some (.bool false)),(5,21,some (.bool false)),(6,22,some (.int .i64 (k:Int)))] hHeld (by kernel_rfl) ?_
      simp only[runA,Act.put,zB,zC,zD]
      refine tVal 7 23 (.bool true) hHeld (by kernel_rfl) (fun w' hSw=>?_) ?_
      ·simp only[zE,zF,zG,zH,zI];first|(go_simp;done)|(with_reducible rfl)|(go_simp;omega)
      simp only[Act.put,zB,zC,zD]
      refine tRun [(8,24,some (.bool true)),(9,25,some (.func (.func 77) #[] #[])),(10,26,some (.slice (some ⟨b0,off,none⟩) n c)),(11,27,some (.int .i64 (k:Int)))] hHeld (by kernel_rfl) ?_
      simp only[runA,Act.put,zB,zC,zD]
      refine tVal 12 28 (.int .i64 (j:Int)) hHeld (by kernel_rfl) (fun w' hSw=>?_) ?_
      ·simp only[zE,zF,zG,zH,zI];first|(go_simp;done)|(with_reducible rfl)|(go_simp;omega)
      simp only[Act.put,zB,zC,zD]
      refine tVal 13 29 (.pointer (some ⟨b0,off+j*4,none⟩)) hHeld (by kernel_rfl) (fun w' hSw=>?_) ?_
      ·simp only[zE,zF,zG,zH,zI];first|(go_simp;done)|(with_reducible rfl)|(go_simp;omega)
      simp only[Act.put,zB,zC,zD]
      refine tLoad 14 30 43 (.tmp 29) b0 (off+j*4) [.string y.name,.int .i64 y.kind,.string y.text,.slice Au1 y.nums.length cu1] hHeld (by kernel_rfl) (by kernel_rfl) rfl (fun w' hw'=>yad ry hw'.2 hb0) Tryz.underlying43 rfl (by kernel_rfl) ?_
      simp only[Act.put,zB,zC,zD]
      refine tRun [(16,32,some (.func (.func 77) #[] #[]))] hHeld (by kernel_rfl) ?_
      simp only[runA,Act.put,zB,zC,zD]
      refine tLoad 17 33 43 (.tmp 8) wr.heap.size 0 [.string x.name,.int .i64 x.kind,.string x.text,.slice Av1 x.nums.length cv1] hHeld (by kernel_rfl) (by kernel_rfl) rfl (fun w' hw'=>hw'.1) Tryz.underlying43 rfl (by kernel_rfl) ?_
      simp only[Act.put,zB,zC,zD]
      refine tEnter 15 31 77 #[.agg #[.string y.name,.int .i64 y.kind,.string y.text,.slice Au1 y.nums.length cu1]] (by kernel_rfl) (by kernel_rfl) (by kernel_rfl) (ya6 y (.slice Au1 y.nums.length cu1) _) ?_
      rintro e w1 ⟨rfl,hb⟩
      refine⟨_,rfl,⟨yad hHeld.1 hb (World.block_lt_of_cell? _ _ (hHeld.1 0 _ rfl)),yac hHeld.2 hb⟩,fun hHeld=>?_⟩
      simp only[Act.put,zB,zC,zD]
      clear hb
      refine tEnter 18 34 77 #[.agg #[.string x.name,.int .i64 x.kind,.string x.text,.slice Av1 x.nums.length cv1]] (by kernel_rfl) (by kernel_rfl) (by kernel_rfl) (ya6 x (.slice Av1 x.nums.length cv1) _) ?_
      rintro e w1 ⟨rfl,hb⟩
      refine⟨_,rfl,⟨yad hHeld.1 hb (World.block_lt_of_cell? _ _ (hHeld.1 0 _ rfl)),yac hHeld.2 hb⟩,fun hHeld=>?_⟩
      simp only[Act.put,zB,zC,zD]
      clear hb
      refine tVal 19 35 (.bool false) hHeld (by kernel_rfl) (fun w' hSw=>?_) ?_
      ·simp only[zE,zF,zG,zH,zI];first|(go_simp;done)|(with_reducible rfl)|(go_simp;omega)
      simp only[Act.put,zB,zC,zD]
      refine tRun [(20,36,some (.bool false)),(21,37,some (.bool false))] hHeld (by kernel_rfl) ?_
      simp only[runA,Act.put,zB,zC,zD]
      refine wpAnyH_done (by kernel_rfl) (tNoP ?_) _
      have b2:=zh hHeld.2
      clear hHeld
      go_wp2
      go_roundw
      case rel=>exact⟨k+1,by omega,by go_num,HN,zh (yac hB.out b2.out)⟩
      case measure=>simp only[intOf];omega
theorem yny {l:List AttrD} {k:Nat} {x:AttrD} (hk:l[k]?=some x) (h:attrB x=false):attrsB l=false:=by
 unfold attrsB
 have:l.all attrB=false:=by
  cases ha:l.all attrB
  ·rfl
  ·rw[List.all_eq_true.1 ha x (List.mem_of_getElem? hk)] at h;cases h
 rw[this];rfl
theorem yej (v:Value) (xs:List AttrD) (w:World) (hV:VL kAttr 4 w w.heap.size v xs) (hw:Wf w):Calls Tryz.prog 45 #[v] w fun e w'=>e=.returned (.bool (attrsB xs))/\Below w.heap.size w w':=by
 obtain⟨A,c,rfl,hc1,hc2⟩:=hV.val
 obtain⟨n,hn⟩:∃ n,xs.length=n:=⟨_,rfl⟩
 rw[hn] at hV hc1 hc2 ⊢
 have nb:(n:Int)<=9223372036854775807:=by omega
 obtain⟨X,hX⟩:∃ X,attrsB xs=X:=⟨_,rfl⟩
 rw[hX]
 have HX:=zh hX
 have HN:=zh hn
 have HV:=zh hV
 have HW:=zh hw
 clear hV hw hX hn hc1 hc2
 go_enter Tryz.func45,Tryz.ntmps45
 go_wp2
 go_loopw [7] (fun i wr=>∃ k:Nat,k<=n/\i=.int .i64 (k:Int)/\Hid ((xs.take k).all attrB=true)/\Hid (Below w.heap.size w wr)) (fun i _=>(n - intOf i).toNat)
 case atStart=>exact⟨0,Nat.zero_le _,rfl,zh rfl,zh (Below.refl _ _)⟩
 case round=>
  obtain⟨k,hk,rfl,hA,hB⟩:=hrel
  by_cases hkn:k=n
  ·subst hkn
   have hX2:ascB 16 (xs.map fun x=>bl x.name)=X:=by
    have:=hA.out
    rw[List.take_of_length_le (by have:=HN.out;omega)] at this
    have hx:=HX.out
    unfold attrsB at hx
    rw[this,Bool.true_and] at hx
    exact hx
   have AC:=ykr A k c 16 xs wr ((VL.keeps yaq HV.out hB.out).lifts yap hB.out.size) HN.out (by decide)
   rw[hX2] at AC
   have AC:Calls Tryz.prog 89 #[.slice A k c,.int .i64 16,.func (.func 77) #[] #[]] wr (fun e w'=>e=.returned (.bool X)/\Below wr.heap.size wr w'):=AC
   clear HX HN HV HW hX2 hA
   go_wp2_with (go_at_call 89;(with_reducible refine AC.mono ?_);rintro e w1 ⟨rfl,hb⟩;have b1:=zh (yac hB.out hb);clear hb)
   go_ret
   exact⟨rfl,b1.out⟩
  ·have hlt:k<n:=by omega
   have hi:(k:Int)<(n:Int):=by omega
   obtain⟨x,hx⟩:∃ x,xs[k]?=some x:=⟨_,List.getElem?_eq_getElem (by have:=HN.out;omega)⟩
   obtain⟨b0,off,vs,rfl,hb0,_,hr,hp⟩:=HV.out.get hx
   obtain⟨v1,rfl,h1,h2,h3,h4⟩:=hp
   obtain⟨A1,u1,rfl,_,_⟩:=h4.val
   have c0:wr.cell? ⟨b0,off+k*4,none⟩=some (.string x.name):=(hB.out.cell (p:=⟨b0,off+k*4,none⟩) hb0).trans (hr 0 _ rfl)
   have c1:wr.cell? ⟨b0,off+k*4+1,none⟩=some (.int .i64 x.kind):=(hB.out.cell (p:=⟨b0,off+k*4+1,none⟩) hb0).trans (hr 1 _ rfl)
   have c2:wr.cell? ⟨b0,off+k*4+2,none⟩=some (.string x.text):=(hB.out.cell (p:=⟨b0,off+k*4+2,none⟩) hb0).trans (hr 2 _ rfl)
   have c3:wr.cell? ⟨b0,off+k*4+3,none⟩=some (.slice A1 x.nums.length u1):=(hB.out.cell (p:=⟨b0,off+k*4+3,none⟩) hb0).trans (hr 3 _ rfl)
   have AT:=fun w2 (hb:Below w.heap.size w w2)=>yh4 x (.slice A1 x.nums.length u1) w2 h2 h3 ((VL.keeps yav h4 hb).lifts yao hb.size) (HW.out.up hb)
   have hsz:w.heap.size<=wr.heap.size:=hB.out.size
   have hB1:=hB.out
   cases hq:attrB x
   ·rw[hq] at AT
    have hX:=(yny hx hq).symm.trans HX.out
    subst hX
    clear HX HN HV HW hA hx hr hq h1 h2 h3 h4
    go_wp2_with (go_at_call 88;(with_reducible refine(AT _ (by (repeat (first|exact zJ _ _|assumption|refine yab ?_ _|refine zL ?_|refine yac ?_ (by assumption)|refine yaa ?_ _)))).mono ?_);rintro e w1 ⟨rfl,hb⟩;have b1:Hid (Below wr.heap.size wr w1):=zh (by (repeat (first|exact zJ _ _|assumption|refine yab ?_ _|refine zL ?_|refine yac ?_ (by assumption)|refine yaa ?_ _)));clear hb)
    go_ret
    exact⟨rfl,yac hB.out b1.out⟩
   ·rw[hq] at AT
    have HN2:=zh (show (xs.take (k+1)).all attrB=true by rw[ybx hx,hA.out,hq];rfl)
    clear HX HV HW hA hx hr hq h1 h2 h3 h4
    go_wp2_with (go_at_call 88;(with_reducible refine(AT _ (by (repeat (first|exact zJ _ _|assumption|refine yab ?_ _|refine zL ?_|refine yac ?_ (by assumption)|refine yaa ?_ _)))).mono ?_);rintro e w1 ⟨rfl,hb⟩;have b1:Hid (Below wr.heap.size wr w1):=zh (by (repeat (first|exact zJ _ _|assumption|refine yab ?_ _|refine zL ?_|refine yac ?_ (by assumption)|refine yaa ?_ _)));clear hb)
    go_roundw
    case rel=>exact⟨k+1,by omega,by go_num,HN2,zh (yac hB.out b1.out)⟩
    case measure=>simp only[intOf];omega
theorem ynn (A:Option Addr) (n c most:Nat) (xs:List DimD) (w:World) (hV:VL kDim 3 w w.heap.size (.slice A n c) xs) (hn:xs.length=n) (hm:most<=1000):Calls Tryz.prog 41 #[.slice A n c,.int .i64 (most:Int),.func (.func 42) #[] #[]] w fun e w'=>e=.returned (.bool (ascB most (xs.map fun x=>bl x.name)))/\Below w.heap.size w w':=by
 have hn63:n<=9223372036854775807:=by
  obtain⟨_,_,_,e,h1,_,h3,_⟩:=hV
  injection e with _ e2 _
  omega
 have nb:(n:Int)<=9223372036854775807:=by omega
 have mb:(most:Int)<=1000:=by omega
 have HV:=zh hV
 have VN:=fun S hs w'=>yd4 S hs w'
 have nl:(xs.map fun x=>bl x.name).length=n:=by rw[List.length_map,hn]
 obtain⟨R,hR⟩:∃ R,ascB most (xs.map fun x=>bl x.name)=R:=⟨_,rfl⟩
 rw[hR]
 have HR:=zh hR
 have HE:=zh (show ascP (xs.map fun x=>bl x.name)=true->R=decide (n<=most) from fun h=>by rw[<- hR,yiq h,nl])
 have NL:=zh nl
 clear hV hn63 hR nl
 go_enter Tryz.func41,Tryz.ntmps41
 go_wp2
 go_loopw [11] (fun i wr=>∃ k:Nat,k<=n/\i=.int .i64 (k:Int)/\Hid (ascP ((xs.map fun x=>bl x.name).take k)=true)/\Hid (Below w.heap.size w wr)) (fun i _=>(n - intOf i).toNat)
 case atStart=>exact⟨0,Nat.zero_le _,rfl,zh rfl,zh (Below.refl _ _)⟩
 case round=>
  obtain⟨k,hk,rfl,hA,hB⟩:=hrel
  by_cases hkn:k=n
  ·subst hkn
   have hE:=HE.out (by have:=hA.out;rwa [List.take_of_length_le (by rw[NL.out];exact Nat.le_refl _)] at this)
   by_cases hle:k<=most
   ·have hi:(k:Int)<=(most:Int):=by omega
    rw[decide_eq_true hle] at hE
    subst hE
    clear HV VN HR HE NL hA hle
    go_wp2
    go_ret
    exact⟨rfl,hB.out⟩
   ·have hi:¬(k:Int)<=(most:Int):=by omega
    rw[decide_eq_false hle] at hE
    subst hE
    clear HV VN HR HE NL hA hle
    go_wp2
    go_ret
    exact⟨rfl,hB.out⟩
  ·have hlt:k<n:=by omega
   have hi:(k:Int)<(n:Int):=by omega
   obtain⟨x,hx⟩:∃ x,xs[k]?=some x:=⟨_,List.getElem?_eq_getElem (by omega)⟩
   have hx2:(xs.map fun x=>bl x.name)[k]?=some (bl x.name):=by rw[List.getElem?_map,hx];rfl
   obtain⟨b0,off,vs,rfl,hb00,_,hr,hp⟩:=HV.out.get hx
   have hwz:w.heap.size<=wr.heap.size:=hB.out.size
   have hb0:b0<wr.heap.size:=Nat.lt_of_lt_of_le hb00 hwz
   obtain⟨rfl,hov,_⟩:=hp
   have c0:wr.cell? ⟨b0,off+k*3,none⟩=some (.string x.name):=(hB.out.cell (p:=⟨b0,off+k*3,none⟩) hb00).trans (hr 0 _ rfl)
   have c1:wr.cell? ⟨b0,off+k*3+1,none⟩=some (.int .i64 x.size):=(hB.out.cell (p:=⟨b0,off+k*3+1,none⟩) hb00).trans (hr 1 _ rfl)
   have c2:wr.cell? ⟨b0,off+k*3+2,none⟩=some (.bool x.opn):=(hB.out.cell (p:=⟨b0,off+k*3+2,none⟩) hb00).trans (hr 2 _ rfl)
   have VN:=VN x.name hov
   cases hq:nameB (bl x.name)
   ·rw[hq] at VN
    have hX:=(yih (most:=most) hx2 hq).symm.trans HR.out
    subst hX
    clear HV HR HE NL hA hx hx2 hr hq
    go_wp2_with fail
    refine wp_region_noPanic ?_
    refine wp_region_held_drew (S:=fun w'=>w'.rangeAt wr.heap.size 0 [.string x.name,.int .i64 x.size,.bool x.opn]/\Below wr.heap.size wr w') (by kernel_rfl) ⟨row3 (⟨by go_keep,by go_keep,by go_keep⟩),by (repeat (first|exact zJ _ _|assumption|refine yab ?_ _|refine zL ?_|refine yac ?_ (by assumption)|refine yaa ?_ _))⟩ (fun hHeld=>?_)
    refine tRun [(0,16,some (.func (.func 42) #[] #[]))] hHeld (by kernel_rfl) ?_
    simp only[runA,Act.put,zB,zC,zD]
    refine tLoad 1 17 26 (.tmp 8) wr.heap.size 0 [.string x.name,.int .i64 x.size,.bool x.opn] hHeld (by kernel_rfl) (by kernel_rfl) rfl (fun w' hw'=>hw'.1) Tryz.underlying26 rfl (by kernel_rfl) ?_
    simp only[Act.put,zB,zC,zD]
    refine tEnter 2 18 42 #[.agg #[.string x.name,.int .i64 x.size,.bool x.opn]] (by kernel_rfl) (by kernel_rfl) (by kernel_rfl) (ya3 x _) ?_
    rintro e w1 ⟨rfl,hb⟩
    refine⟨_,rfl,⟨yad hHeld.1 hb (World.block_lt_of_cell? _ _ (hHeld.1 0 _ rfl)),yac hHeld.2 hb⟩,fun hHeld=>?_⟩
    simp only[Act.put,zB,zC,zD]
    clear hb
    refine tEnter 3 19 36 #[.string x.name] (by kernel_rfl) (by kernel_rfl) (by kernel_rfl) (VN _) ?_
    rintro e w2 ⟨rfl,rfl⟩
    refine⟨_,rfl,hHeld,fun hHeld=>?_⟩
    simp only[Act.put,zB,zC,zD]
    refine tRun ((4,20,some (.bool true))::(5,21,some (.bool true))::(noR 6 22 15 [(21,37,some (.bool true))])) hHeld (by kernel_rfl) ?_
    simp only[runA,noR,Act.put,zB,zC,zD]
    refine wpAnyH_done (by kernel_rfl) (tNoP ?_) _
    have b2:=zh hHeld.2
    clear hHeld
    go_wp2
    go_ret
    exact⟨rfl,yac hB.out b2.out⟩
   ·rw[hq] at VN
    rcases Nat.eq_zero_or_pos k with hk0|hk0
    ·have hj0:¬(0:Int)<(k:Int):=by omega
     have HN:=zh (yfn hA.out hx2 hq (fun j b h _=>by omega))
     clear HV HR HE hA hx hx2 hr hq hk0
     go_wp2_with fail
     refine wp_region_noPanic ?_
     refine wp_region_held_drew (S:=fun w'=>w'.rangeAt wr.heap.size 0 [.string x.name,.int .i64 x.size,.bool x.opn]/\Below wr.heap.size wr w') (by kernel_rfl) ⟨row3 (⟨by go_keep,by go_keep,by go_keep⟩),by (repeat (first|exact zJ _ _|assumption|refine yab ?_ _|refine zL ?_|refine yac ?_ (by assumption)|refine yaa ?_ _))⟩ (fun hHeld=>?_)
     refine tRun [(0,16,some (.func (.func 42) #[] #[]))] hHeld (by kernel_rfl) ?_
     simp only[runA,Act.put,zB,zC,zD]
     refine tLoad 1 17 26 (.tmp 8) wr.heap.size 0 [.string x.name,.int .i64 x.size,.bool x.opn] hHeld (by kernel_rfl) (by kernel_rfl) rfl (fun w' hw'=>hw'.1) Tryz.underlying26 rfl (by kernel_rfl) ?_
     simp only[Act.put,zB,zC,zD]
     refine tEnter 2 18 42 #[.agg #[.string x.name,.int .i64 x.size,.bool x.opn]] (by kernel_rfl) (by kernel_rfl) (by kernel_rfl) (ya3 x _) ?_
     rintro e w1 ⟨rfl,hb⟩
     refine⟨_,rfl,⟨yad hHeld.1 hb (World.block_lt_of_cell? _ _ (hHeld.1 0 _ rfl)),yac hHeld.2 hb⟩,fun hHeld=>?_⟩
     simp only[Act.put,zB,zC,zD]
     clear hb
     refine tEnter 3 19 36 #[.string x.name] (by kernel_rfl) (by kernel_rfl) (by kernel_rfl) (VN _) ?_
     rintro e w2 ⟨rfl,rfl⟩
     refine⟨_,rfl,hHeld,fun hHeld=>?_⟩
     simp only[Act.put,zB,zC,zD]
     refine tRun [(4,20,some (.bool false)),(5,21,some (.bool false)),(6,22,some (.int .i64 (k:Int)))] hHeld (by kernel_rfl) ?_
     simp only[runA,Act.put,zB,zC,zD]
     refine tVal 7 23 (.bool false) hHeld (by kernel_rfl) (fun w' hSw=>?_) ?_
     ·simp only[zE,zF,zG,zH,zI];first|(go_simp;done)|(with_reducible rfl)|(go_simp;omega)
     simp only[Act.put,zB,zC,zD]
     refine tRun ((8,24,some (.bool false))::(noR 9 25 11 [(20,36,some (.bool false)),(21,37,some (.bool false))])) hHeld (by kernel_rfl) ?_
     simp only[runA,noR,Act.put,zB,zC,zD]
     refine wpAnyH_done (by kernel_rfl) (tNoP ?_) _
     have b2:=zh hHeld.2
     clear hHeld
     go_wp2
     go_roundw
     case rel=>exact⟨k+1,by omega,by go_num,HN,zh (yac hB.out b2.out)⟩
     case measure=>simp only[intOf];omega
    ·obtain⟨j,hjk⟩:∃ j,k=j+1:=⟨k - 1,by omega⟩
     obtain⟨y,hy⟩:∃ y,xs[j]?=some y:=⟨_,List.getElem?_eq_getElem (by omega)⟩
     have hy2:(xs.map fun x=>bl x.name)[j]?=some (bl y.name):=by rw[List.getElem?_map,hy];rfl
     obtain⟨b1,off1,vs1,e1,_,_,ry,hp1⟩:=HV.out.get hy
     injection e1 with e1
     injection e1 with e1 e2
     subst e1 e2
     obtain⟨rfl,hou,_⟩:=hp1
     have ry:=yad ry hB.out hb00
     have hj0:(0:Int)<(k:Int):=by omega
     have hj1:IntKind.i64.wrap ((k:Int) - 1)=(j:Int):=by rw[IntWalk.i64_in _ (by omega)];omega
     have hj2:j<n:=by omega
     have hjn:(j:Int)<(n:Int):=by omega
     have ew:Op.bytesLess y.name.toList x.name.toList=Op.bytesLess (bl y.name) (bl x.name):=by rw[Lib.toList_data,Lib.toList_data];rfl
     cases hl:Op.bytesLess (bl y.name) (bl x.name)
     ·rw[hl] at ew
      have hX:=(yic (most:=most) hy2 (hjk▸hx2) hl).symm.trans HR.out
      subst hX
      clear HV HR HE NL hA hx hx2 hr hq hy hy2 hl hjk hk0
      go_wp2_with fail
      refine wp_region_noPanic ?_
      refine wp_region_held_drew (S:=fun w'=>w'.rangeAt wr.heap.size 0 [.string x.name,.int .i64 x.size,.bool x.opn]/\Below wr.heap.size wr w') (by kernel_rfl) ⟨row3 (⟨by go_keep,by go_keep,by go_keep⟩),by (repeat (first|exact zJ _ _|assumption|refine yab ?_ _|refine zL ?_|refine yac ?_ (by assumption)|refine yaa ?_ _))⟩ (fun hHeld=>?_)
      refine tRun [(0,16,some (.func (.func 42) #[] #[]))] hHeld (by kernel_rfl) ?_
      simp only[runA,Act.put,zB,zC,zD]
      refine tLoad 1 17 26 (.tmp 8) wr.heap.size 0 [.string x.name,.int .i64 x.size,.bool x.opn] hHeld (by kernel_rfl) (by kernel_rfl) rfl (fun w' hw'=>hw'.1) Tryz.underlying26 rfl (by kernel_rfl) ?_
      simp only[Act.put,zB,zC,zD]
      refine tEnter 2 18 42 #[.agg #[.string x.name,.int .i64 x.size,.bool x.opn]] (by kernel_rfl) (by kernel_rfl) (by kernel_rfl) (ya3 x _) ?_
      rintro e w1 ⟨rfl,hb⟩
      refine⟨_,rfl,⟨yad hHeld.1 hb (World.block_lt_of_cell? _ _ (hHeld.1 0 _ rfl)),yac hHeld.2 hb⟩,fun hHeld=>?_⟩
      simp only[Act.put,zB,zC,zD]
      clear hb
      refine tEnter 3 19 36 #[.string x.name] (by kernel_rfl) (by kernel_rfl) (by kernel_rfl) (VN _) ?_
      rintro e w2 ⟨rfl,rfl⟩
      refine⟨_,rfl,hHeld,fun hHeld=>?_⟩
      simp only[Act.put,zB,zC,zD]
      refine tRun [(4,20,some (.bool false)),(5,21,some (.bool false)),(6,22,some (.int .i64 (k:Int)))] hHeld (by kernel_rfl) ?_
      simp only[runA,Act.put,zB,zC,zD]
      refine tVal 7 23 (.bool true) hHeld (by kernel_rfl) (fun w' hSw=>?_) ?_
      ·simp only[zE,zF,zG,zH,zI];first|(go_simp;done)|(with_reducible rfl)|(go_simp;omega)
      simp only[Act.put,zB,zC,zD]
      refine tRun [(8,24,some (.bool true)),(9,25,some (.func (.func 42) #[] #[])),(10,26,some (.slice (some ⟨b0,off,none⟩) n c)),(11,27,some (.int .i64 (k:Int)))] hHeld (by kernel_rfl) ?_
      simp only[runA,Act.put,zB,zC,zD]
      refine tVal 12 28 (.int .i64 (j:Int)) hHeld (by kernel_rfl) (fun w' hSw=>?_) ?_
      ·simp only[zE,zF,zG,zH,zI];first|(go_simp;done)|(with_reducible rfl)|(go_simp;omega)
      simp only[Act.put,zB,zC,zD]
      refine tVal 13 29 (.pointer (some ⟨b0,off+j*3,none⟩)) hHeld (by kernel_rfl) (fun w' hSw=>?_) ?_
      ·simp only[zE,zF,zG,zH,zI];first|(go_simp;done)|(with_reducible rfl)|(go_simp;omega)
      simp only[Act.put,zB,zC,zD]
      refine tLoad 14 30 26 (.tmp 29) b0 (off+j*3) [.string y.name,.int .i64 y.size,.bool y.opn] hHeld (by kernel_rfl) (by kernel_rfl) rfl (fun w' hw'=>yad ry hw'.2 hb0) Tryz.underlying26 rfl (by kernel_rfl) ?_
      simp only[Act.put,zB,zC,zD]
      refine tRun [(16,32,some (.func (.func 42) #[] #[]))] hHeld (by kernel_rfl) ?_
      simp only[runA,Act.put,zB,zC,zD]
      refine tLoad 17 33 26 (.tmp 8) wr.heap.size 0 [.string x.name,.int .i64 x.size,.bool x.opn] hHeld (by kernel_rfl) (by kernel_rfl) rfl (fun w' hw'=>hw'.1) Tryz.underlying26 rfl (by kernel_rfl) ?_
      simp only[Act.put,zB,zC,zD]
      refine tEnter 15 31 42 #[.agg #[.string y.name,.int .i64 y.size,.bool y.opn]] (by kernel_rfl) (by kernel_rfl) (by kernel_rfl) (ya3 y _) ?_
      rintro e w1 ⟨rfl,hb⟩
      refine⟨_,rfl,⟨yad hHeld.1 hb (World.block_lt_of_cell? _ _ (hHeld.1 0 _ rfl)),yac hHeld.2 hb⟩,fun hHeld=>?_⟩
      simp only[Act.put,zB,zC,zD]
      clear hb
      refine tEnter 18 34 42 #[.agg #[.string x.name,.int .i64 x.size,.bool x.opn]] (by kernel_rfl) (by kernel_rfl) (by kernel_rfl) (ya3 x _) ?_
      rintro e w1 ⟨rfl,hb⟩
      refine⟨_,rfl,⟨yad hHeld.1 hb (World.block_lt_of_cell? _ _ (hHeld.1 0 _ rfl)),yac hHeld.2 hb⟩,fun hHeld=>?_⟩
      simp only[Act.put,zB,zC,zD]
      clear hb
      refine tVal 19 35 (.bool true) hHeld (by kernel_rfl) (fun w' hSw=>?_) ?_
      ·simp only[zE,zF,zG,zH,zI];first|(go_simp;done)|(with_reducible rfl)|(go_simp;omega)
      simp only[Act.put,zB,zC,zD]
      refine tRun [(20,36,some (.bool true)),(21,37,some (.bool true))] hHeld (by kernel_rfl) ?_
      simp only[runA,Act.put,zB,zC,zD]
      refine wpAnyH_done (by kernel_rfl) (tNoP ?_) _
      have b2:=zh hHeld.2
      clear hHeld
      go_wp2
      go_ret
      exact⟨rfl,yac hB.out b2.out⟩
     ·rw[hl] at ew
      have HN:=zh (yfn hA.out hx2 hq (fun i b h hb=>by
       have:i=j:=by omega
       subst this
       rw[hy2] at hb
       injection hb with hb
       rw[<- hb];exact hl))
      clear HV HR HE hA hx hx2 hr hq hy hy2 hl hjk hk0
      go_wp2_with fail
      refine wp_region_noPanic ?_
      refine wp_region_held_drew (S:=fun w'=>w'.rangeAt wr.heap.size 0 [.string x.name,.int .i64 x.size,.bool x.opn]/\Below wr.heap.size wr w') (by kernel_rfl) ⟨row3 (⟨by go_keep,by go_keep,by go_keep⟩),by (repeat (first|exact zJ _ _|assumption|refine yab ?_ _|refine zL ?_|refine yac ?_ (by assumption)|refine yaa ?_ _))⟩ (fun hHeld=>?_)
      refine tRun [(0,16,some (.func (.func 42) #[] #[]))] hHeld (by kernel_rfl) ?_
      simp only[runA,Act.put,zB,zC,zD]
      refine tLoad 1 17 26 (.tmp 8) wr.heap.size 0 [.string x.name,.int .i64 x.size,.bool x.opn] hHeld (by kernel_rfl) (by kernel_rfl) rfl (fun w' hw'=>hw'.1) Tryz.underlying26 rfl (by kernel_rfl) ?_
      simp only[Act.put,zB,zC,zD]
      refine tEnter 2 18 42 #[.agg #[.string x.name,.int .i64 x.size,.bool x.opn]] (by kernel_rfl) (by kernel_rfl) (by kernel_rfl) (ya3 x _) ?_
      rintro e w1 ⟨rfl,hb⟩
      refine⟨_,rfl,⟨yad hHeld.1 hb (World.block_lt_of_cell? _ _ (hHeld.1 0 _ rfl)),yac hHeld.2 hb⟩,fun hHeld=>?_⟩
      simp only[Act.put,zB,zC,zD]
      clear hb
      refine tEnter 3 19 36 #[.string x.name] (by kernel_rfl) (by kernel_rfl) (by kernel_rfl) (VN _) ?_
      rintro e w2 ⟨rfl,rfl⟩
      refine⟨_,rfl,hHeld,fun hHeld=>?_⟩
      simp only[Act.put,zB,zC,zD]
      refine tRun [(4,20,some (.bool false)),(5,21,some (.bool false)),(6,22,some (.int .i64 (k:Int)))] hHeld (by kernel_rfl) ?_
      simp only[runA,Act.put,zB,zC,zD]
      refine tVal 7 23 (.bool true) hHeld (by kernel_rfl) (fun w' hSw=>?_) ?_
      ·simp only[zE,zF,zG,zH,zI];first|(go_simp;done)|(with_reducible rfl)|(go_simp;omega)
      simp only[Act.put,zB,zC,zD]
      refine tRun [(8,24,some (.bool true)),(9,25,some (.func (.func 42) #[] #[])),(10,26,some (.slice (some ⟨b0,off,none⟩) n c)),(11,27,some (.int .i64 (k:Int)))] hHeld (by kernel_rfl) ?_
      simp only[runA,Act.put,zB,zC,zD]
      refine tVal 12 28 (.int .i64 (j:Int)) hHeld (by kernel_rfl) (fun w' hSw=>?_) ?_
      ·simp only[zE,zF,zG,zH,zI];first|(go_simp;done)|(with_reducible rfl)|(go_simp;omega)
      simp only[Act.put,zB,zC,zD]
      refine tVal 13 29 (.pointer (some ⟨b0,off+j*3,none⟩)) hHeld (by kernel_rfl) (fun w' hSw=>?_) ?_
      ·simp only[zE,zF,zG,zH,zI];first|(go_simp;done)|(with_reducible rfl)|(go_simp;omega)
      simp only[Act.put,zB,zC,zD]
      refine tLoad 14 30 26 (.tmp 29) b0 (off+j*3) [.string y.name,.int .i64 y.size,.bool y.opn] hHeld (by kernel_rfl) (by kernel_rfl) rfl (fun w' hw'=>yad ry hw'.2 hb0) Tryz.underlying26 rfl (by kernel_rfl) ?_
      simp only[Act.put,zB,zC,zD]
      refine tRun [(16,32,some (.func (.func 42) #[] #[]))] hHeld (by kernel_rfl) ?_
      simp only[runA,Act.put,zB,zC,zD]
      refine tLoad 17 33 26 (.tmp 8) wr.heap.size 0 [.string x.name,.int .i64 x.size,.bool x.opn] hHeld (by kernel_rfl) (by kernel_rfl) rfl (fun w' hw'=>hw'.1) Tryz.underlying26 rfl (by kernel_rfl) ?_
      simp only[Act.put,zB,zC,zD]
      refine tEnter 15 31 42 #[.agg #[.string y.name,.int .i64 y.size,.bool y.opn]] (by kernel_rfl) (by kernel_rfl) (by kernel_rfl) (ya3 y _) ?_
      rintro e w1 ⟨rfl,hb⟩
      refine⟨_,rfl,⟨yad hHeld.1 hb (World.block_lt_of_cell? _ _ (hHeld.1 0 _ rfl)),yac hHeld.2 hb⟩,fun hHeld=>?_⟩
      simp only[Act.put,zB,zC,zD]
      clear hb
      refine tEnter 18 34 42 #[.agg #[.string x.name,.int .i64 x.size,.bool x.opn]] (by kernel_rfl) (by kernel_rfl) (by kernel_rfl) (ya3 x _) ?_
      rintro e w1 ⟨rfl,hb⟩
      refine⟨_,rfl,⟨yad hHeld.1 hb (World.block_lt_of_cell? _ _ (hHeld.1 0 _ rfl)),yac hHeld.2 hb⟩,fun hHeld=>?_⟩
      simp only[Act.put,zB,zC,zD]
      clear hb
      refine tVal 19 35 (.bool false) hHeld (by kernel_rfl) (fun w' hSw=>?_) ?_
      ·simp only[zE,zF,zG,zH,zI];first|(go_simp;done)|(with_reducible rfl)|(go_simp;omega)
      simp only[Act.put,zB,zC,zD]
      refine tRun [(20,36,some (.bool false)),(21,37,some (.bool false))] hHeld (by kernel_rfl) ?_
      simp only[runA,Act.put,zB,zC,zD]
      refine wpAnyH_done (by kernel_rfl) (tNoP ?_) _
      have b2:=zh hHeld.2
      clear hHeld
      go_wp2
      go_roundw
      case rel=>exact⟨k+1,by omega,by go_num,HN,zh (yac hB.out b2.out)⟩
      case measure=>simp only[intOf];omega
theorem ynq (A:Option Addr) (n c most:Nat) (xs:List VarD) (w:World) (hV:VL kVar 8 w w.heap.size (.slice A n c) xs) (hn:xs.length=n) (hm:most<=1000):Calls Tryz.prog 43 #[.slice A n c,.int .i64 (most:Int),.func (.func 44) #[] #[]] w fun e w'=>e=.returned (.bool (ascB most (xs.map fun x=>bl x.name)))/\Below w.heap.size w w':=by
 have hn63:n<=9223372036854775807:=by
  obtain⟨_,_,_,e,h1,_,h3,_⟩:=hV
  injection e with _ e2 _
  omega
 have nb:(n:Int)<=9223372036854775807:=by omega
 have mb:(most:Int)<=1000:=by omega
 have HV:=zh hV
 have VN:=fun S hs w'=>yd4 S hs w'
 have nl:(xs.map fun x=>bl x.name).length=n:=by rw[List.length_map,hn]
 obtain⟨R,hR⟩:∃ R,ascB most (xs.map fun x=>bl x.name)=R:=⟨_,rfl⟩
 rw[hR]
 have HR:=zh hR
 have HE:=zh (show ascP (xs.map fun x=>bl x.name)=true->R=decide (n<=most) from fun h=>by rw[<- hR,yiq h,nl])
 have NL:=zh nl
 clear hV hn63 hR nl
 go_enter Tryz.func43,Tryz.ntmps43
 go_wp2
 go_loopw [11] (fun i wr=>∃ k:Nat,k<=n/\i=.int .i64 (k:Int)/\Hid (ascP ((xs.map fun x=>bl x.name).take k)=true)/\Hid (Below w.heap.size w wr)) (fun i _=>(n - intOf i).toNat)
 case atStart=>exact⟨0,Nat.zero_le _,rfl,zh rfl,zh (Below.refl _ _)⟩
 case round=>
  obtain⟨k,hk,rfl,hA,hB⟩:=hrel
  by_cases hkn:k=n
  ·subst hkn
   have hE:=HE.out (by have:=hA.out;rwa [List.take_of_length_le (by rw[NL.out];exact Nat.le_refl _)] at this)
   by_cases hle:k<=most
   ·have hi:(k:Int)<=(most:Int):=by omega
    rw[decide_eq_true hle] at hE
    subst hE
    clear HV VN HR HE NL hA hle
    go_wp2
    go_ret
    exact⟨rfl,hB.out⟩
   ·have hi:¬(k:Int)<=(most:Int):=by omega
    rw[decide_eq_false hle] at hE
    subst hE
    clear HV VN HR HE NL hA hle
    go_wp2
    go_ret
    exact⟨rfl,hB.out⟩
  ·have hlt:k<n:=by omega
   have hi:(k:Int)<(n:Int):=by omega
   obtain⟨x,hx⟩:∃ x,xs[k]?=some x:=⟨_,List.getElem?_eq_getElem (by omega)⟩
   have hx2:(xs.map fun x=>bl x.name)[k]?=some (bl x.name):=by rw[List.getElem?_map,hx];rfl
   obtain⟨b0,off,vs,rfl,hb00,_,hr,hp⟩:=HV.out.get hx
   have hwz:w.heap.size<=wr.heap.size:=hB.out.size
   have hb0:b0<wr.heap.size:=Nat.lt_of_lt_of_le hb00 hwz
   obtain⟨v1,v2,v3,v4,rfl,hov,_,_,_,lv1,lv2,lv3,lv4⟩:=hp
   obtain⟨Av1,cv1,rfl,_,_⟩:=lv1.val
   obtain⟨Av2,cv2,rfl,_,_⟩:=lv2.val
   obtain⟨Av3,cv3,rfl,_,_⟩:=lv3.val
   obtain⟨Av4,cv4,rfl,_,_⟩:=lv4.val
   have c0:wr.cell? ⟨b0,off+k*8,none⟩=some (.string x.name):=(hB.out.cell (p:=⟨b0,off+k*8,none⟩) hb00).trans (hr 0 _ rfl)
   have c1:wr.cell? ⟨b0,off+k*8+1,none⟩=some (.int .i64 x.typ):=(hB.out.cell (p:=⟨b0,off+k*8+1,none⟩) hb00).trans (hr 1 _ rfl)
   have c2:wr.cell? ⟨b0,off+k*8+2,none⟩=some (.slice Av1 x.dims.length cv1):=(hB.out.cell (p:=⟨b0,off+k*8+2,none⟩) hb00).trans (hr 2 _ rfl)
   have c3:wr.cell? ⟨b0,off+k*8+3,none⟩=some (.slice Av2 x.chunks.length cv2):=(hB.out.cell (p:=⟨b0,off+k*8+3,none⟩) hb00).trans (hr 3 _ rfl)
   have c4:wr.cell? ⟨b0,off+k*8+4,none⟩=some (.string x.fill):=(hB.out.cell (p:=⟨b0,off+k*8+4,none⟩) hb00).trans (hr 4 _ rfl)
   have c5:wr.cell? ⟨b0,off+k*8+5,none⟩=some (.string x.unit):=(hB.out.cell (p:=⟨b0,off+k*8+5,none⟩) hb00).trans (hr 5 _ rfl)
   have c6:wr.cell? ⟨b0,off+k*8+6,none⟩=some (.slice Av3 x.stages.length cv3):=(hB.out.cell (p:=⟨b0,off+k*8+6,none⟩) hb00).trans (hr 6 _ rfl)
   have c7:wr.cell? ⟨b0,off+k*8+7,none⟩=some (.slice Av4 x.attrs.length cv4):=(hB.out.cell (p:=⟨b0,off+k*8+7,none⟩) hb00).trans (hr 7 _ rfl)
   have VN:=VN x.name hov
   cases hq:nameB (bl x.name)
   ·rw[hq] at VN
    have hX:=(yih (most:=most) hx2 hq).symm.trans HR.out
    subst hX
    clear HV HR HE NL hA hx hx2 hr hq
    go_wp2_with fail
    refine wp_region_noPanic ?_
    refine wp_region_held_drew (S:=fun w'=>w'.rangeAt wr.heap.size 0 [.string x.name,.int .i64 x.typ,.slice Av1 x.dims.length cv1,.slice Av2 x.chunks.length cv2,.string x.fill,.string x.unit,.slice Av3 x.stages.length cv3,.slice Av4 x.attrs.length cv4]/\Below wr.heap.size wr w') (by kernel_rfl) ⟨row8 (⟨by go_keep,by go_keep,by go_keep,by go_keep,by go_keep,by go_keep,by go_keep,by go_keep⟩),by (repeat (first|exact zJ _ _|assumption|refine yab ?_ _|refine zL ?_|refine yac ?_ (by assumption)|refine yaa ?_ _))⟩ (fun hHeld=>?_)
    refine tRun [(0,16,some (.func (.func 44) #[] #[]))] hHeld (by kernel_rfl) ?_
    simp only[runA,Act.put,zB,zC,zD]
    refine tLoad 1 17 41 (.tmp 8) wr.heap.size 0 [.string x.name,.int .i64 x.typ,.slice Av1 x.dims.length cv1,.slice Av2 x.chunks.length cv2,.string x.fill,.string x.unit,.slice Av3 x.stages.length cv3,.slice Av4 x.attrs.length cv4] hHeld (by kernel_rfl) (by kernel_rfl) rfl (fun w' hw'=>hw'.1) Tryz.underlying41 rfl (by kernel_rfl) ?_
    simp only[Act.put,zB,zC,zD]
    refine tEnter 2 18 44 #[.agg #[.string x.name,.int .i64 x.typ,.slice Av1 x.dims.length cv1,.slice Av2 x.chunks.length cv2,.string x.fill,.string x.unit,.slice Av3 x.stages.length cv3,.slice Av4 x.attrs.length cv4]] (by kernel_rfl) (by kernel_rfl) (by kernel_rfl) (ybf x (.slice Av1 x.dims.length cv1) (.slice Av2 x.chunks.length cv2) (.slice Av3 x.stages.length cv3) (.slice Av4 x.attrs.length cv4) _) ?_
    rintro e w1 ⟨rfl,hb⟩
    refine⟨_,rfl,⟨yad hHeld.1 hb (World.block_lt_of_cell? _ _ (hHeld.1 0 _ rfl)),yac hHeld.2 hb⟩,fun hHeld=>?_⟩
    simp only[Act.put,zB,zC,zD]
    clear hb
    refine tEnter 3 19 36 #[.string x.name] (by kernel_rfl) (by kernel_rfl) (by kernel_rfl) (VN _) ?_
    rintro e w2 ⟨rfl,rfl⟩
    refine⟨_,rfl,hHeld,fun hHeld=>?_⟩
    simp only[Act.put,zB,zC,zD]
    refine tRun ((4,20,some (.bool true))::(5,21,some (.bool true))::(noR 6 22 15 [(21,37,some (.bool true))])) hHeld (by kernel_rfl) ?_
    simp only[runA,noR,Act.put,zB,zC,zD]
    refine wpAnyH_done (by kernel_rfl) (tNoP ?_) _
    have b2:=zh hHeld.2
    clear hHeld
    go_wp2
    go_ret
    exact⟨rfl,yac hB.out b2.out⟩
   ·rw[hq] at VN
    rcases Nat.eq_zero_or_pos k with hk0|hk0
    ·have hj0:¬(0:Int)<(k:Int):=by omega
     have HN:=zh (yfn hA.out hx2 hq (fun j b h _=>by omega))
     clear HV HR HE hA hx hx2 hr hq hk0
     go_wp2_with fail
     refine wp_region_noPanic ?_
     refine wp_region_held_drew (S:=fun w'=>w'.rangeAt wr.heap.size 0 [.string x.name,.int .i64 x.typ,.slice Av1 x.dims.length cv1,.slice Av2 x.chunks.length cv2,.string x.fill,.string x.unit,.slice Av3 x.stages.length cv3,.slice Av4 x.attrs.length cv4]/\Below wr.heap.size wr w') (by kernel_rfl) ⟨row8 (⟨by go_keep,by go_keep,by go_keep,by go_keep,by go_keep,by go_keep,by go_keep,by go_keep⟩),by (repeat (first|exact zJ _ _|assumption|refine yab ?_ _|refine zL ?_|refine yac ?_ (by assumption)|refine yaa ?_ _))⟩ (fun hHeld=>?_)
     refine tRun [(0,16,some (.func (.func 44) #[] #[]))] hHeld (by kernel_rfl) ?_
     simp only[runA,Act.put,zB,zC,zD]
     refine tLoad 1 17 41 (.tmp 8) wr.heap.size 0 [.string x.name,.int .i64 x.typ,.slice Av1 x.dims.length cv1,.slice Av2 x.chunks.length cv2,.string x.fill,.string x.unit,.slice Av3 x.stages.length cv3,.slice Av4 x.attrs.length cv4] hHeld (by kernel_rfl) (by kernel_rfl) rfl (fun w' hw'=>hw'.1) Tryz.underlying41 rfl (by kernel_rfl) ?_
     simp only[Act.put,zB,zC,zD]
     refine tEnter 2 18 44 #[.agg #[.string x.name,.int .i64 x.typ,.slice Av1 x.dims.length cv1,.slice Av2 x.chunks.length cv2,.string x.fill,.string x.unit,.slice Av3 x.stages.length cv3,.slice Av4 x.attrs.length cv4]] (by kernel_rfl) (by kernel_rfl) (by kernel_rfl) (ybf x (.slice Av1 x.dims.length cv1) (.slice Av2 x.chunks.length cv2) (.slice Av3 x.stages.length cv3) (.slice Av4 x.attrs.length cv4) _) ?_
     rintro e w1 ⟨rfl,hb⟩
     refine⟨_,rfl,⟨yad hHeld.1 hb (World.block_lt_of_cell? _ _ (hHeld.1 0 _ rfl)),yac hHeld.2 hb⟩,fun hHeld=>?_⟩
     simp only[Act.put,zB,zC,zD]
     clear hb
     refine tEnter 3 19 36 #[.string x.name] (by kernel_rfl) (by kernel_rfl) (by kernel_rfl) (VN _) ?_
     rintro e w2 ⟨rfl,rfl⟩
     refine⟨_,rfl,hHeld,fun hHeld=>?_⟩
     simp only[Act.put,zB,zC,zD]
     refine tRun [(4,20,some (.bool false)),(5,21,some (.bool false)),(6,22,some (.int .i64 (k:Int)))] hHeld (by kernel_rfl) ?_
     simp only[runA,Act.put,zB,zC,zD]
     refine tVal 7 23 (.bool false) hHeld (by kernel_rfl) (fun w' hSw=>?_) ?_
     ·simp only[zE,zF,zG,zH,zI];first|(go_simp;done)|(with_reducible rfl)|(go_simp;omega)
     simp only[Act.put,zB,zC,zD]
     refine tRun ((8,24,some (.bool false))::(noR 9 25 11 [(20,36,some (.bool false)),(21,37,some (.bool false))])) hHeld (by kernel_rfl) ?_
     simp only[runA,noR,Act.put,zB,zC,zD]
     refine wpAnyH_done (by kernel_rfl) (tNoP ?_) _
     have b2:=zh hHeld.2
     clear hHeld
     go_wp2
     go_roundw
     case rel=>exact⟨k+1,by omega,by go_num,HN,zh (yac hB.out b2.out)⟩
     case measure=>simp only[intOf];omega
    ·obtain⟨j,hjk⟩:∃ j,k=j+1:=⟨k - 1,by omega⟩
     obtain⟨y,hy⟩:∃ y,xs[j]?=some y:=⟨_,List.getElem?_eq_getElem (by omega)⟩
     have hy2:(xs.map fun x=>bl x.name)[j]?=some (bl y.name):=by rw[List.getElem?_map,hy];rfl
     obtain⟨b1,off1,vs1,e1,_,_,ry,hp1⟩:=HV.out.get hy
     injection e1 with e1
     injection e1 with e1 e2
     subst e1 e2
     obtain⟨u1,u2,u3,u4,rfl,hou,_,_,_,lu1,lu2,lu3,lu4⟩:=hp1
     obtain⟨Au1,cu1,rfl,_,_⟩:=lu1.val
     obtain⟨Au2,cu2,rfl,_,_⟩:=lu2.val
     obtain⟨Au3,cu3,rfl,_,_⟩:=lu3.val
     obtain⟨Au4,cu4,rfl,_,_⟩:=lu4.val
     have ry:=yad ry hB.out hb00
     have hj0:(0:Int)<(k:Int):=by omega
     have hj1:IntKind.i64.wrap ((k:Int) - 1)=(j:Int):=by rw[IntWalk.i64_in _ (by omega)];omega
     have hj2:j<n:=by omega
     have hjn:(j:Int)<(n:Int):=by omega
     have ew:Op.bytesLess y.name.toList x.name.toList=Op.bytesLess (bl y.name) (bl x.name):=by rw[Lib.toList_data,Lib.toList_data];rfl
     cases hl:Op.bytesLess (bl y.name) (bl x.name)
     ·rw[hl] at ew
      have hX:=(yic (most:=most) hy2 (hjk▸hx2) hl).symm.trans HR.out
      subst hX
      clear HV HR HE NL hA hx hx2 hr hq hy hy2 hl hjk hk0
      go_wp2_with fail
      refine wp_region_noPanic ?_
      refine wp_region_held_drew (S:=fun w'=>w'.rangeAt wr.heap.size 0 [.string x.name,.int .i64 x.typ,.slice Av1 x.dims.length cv1,.slice Av2 x.chunks.length cv2,.string x.fill,.string x.unit,.slice Av3 x.stages.length cv3,.slice Av4 x.attrs.length cv4]/\Below wr.heap.size wr w') (by kernel_rfl) ⟨row8 (⟨by go_keep,by go_keep,by go_keep,by go_keep,by go_keep,by go_keep,by go_keep,by go_keep⟩),by (repeat (first|exact zJ _ _|assumption|refine yab ?_ _|refine zL ?_|refine yac ?_ (by assumption)|refine yaa ?_ _))⟩ (fun hHeld=>?_)
      refine tRun [(0,16,some (.func (.func 44) #[] #[]))] hHeld (by kernel_rfl) ?_
      simp only[runA,Act.put,zB,zC,zD]
      refine tLoad 1 17 41 (.tmp 8) wr.heap.size 0 [.string x.name,.int .i64 x.typ,.slice Av1 x.dims.length cv1,.slice Av2 x.chunks.length cv2,.string x.fill,.string x.unit,.slice Av3 x.stages.length cv3,.slice Av4 x.attrs.length cv4] hHeld (by kernel_rfl) (by kernel_rfl) rfl (fun w' hw'=>hw'.1) Tryz.underlying41 rfl (by kernel_rfl) ?_
      simp only[Act.put,zB,zC,zD]
      refine tEnter 2 18 44 #[.agg #[.string x.name,.int .i64 x.typ,.slice Av1 x.dims.length cv1,.slice Av2 x.chunks.length cv2,.string x.fill,.string x.unit,.slice Av3 x.stages.length cv3,.slice Av4 x.attrs.length cv4]] (by kernel_rfl) (by kernel_rfl) (by kernel_rfl) (ybf x (.slice Av1 x.dims.length cv1) (.slice Av2 x.chunks.length cv2) (.slice Av3 x.stages.length cv3) (.slice Av4 x.attrs.length cv4) _) ?_
      rintro e w1 ⟨rfl,hb⟩
      refine⟨_,rfl,⟨yad hHeld.1 hb (World.block_lt_of_cell? _ _ (hHeld.1 0 _ rfl)),yac hHeld.2 hb⟩,fun hHeld=>?_⟩
      simp only[Act.put,zB,zC,zD]
      clear hb
      refine tEnter 3 19 36 #[.string x.name] (by kernel_rfl) (by kernel_rfl) (by kernel_rfl) (VN _) ?_
      rintro e w2 ⟨rfl,rfl⟩
      refine⟨_,rfl,hHeld,fun hHeld=>?_⟩
      simp only[Act.put,zB,zC,zD]
      refine tRun [(4,20,some (.bool false)),(5,21,some (.bool false)),(6,22,some (.int .i64 (k:Int)))] hHeld (by kernel_rfl) ?_
      simp only[runA,Act.put,zB,zC,zD]
      refine tVal 7 23 (.bool true) hHeld (by kernel_rfl) (fun w' hSw=>?_) ?_
      ·simp only[zE,zF,zG,zH,zI];first|(go_simp;done)|(with_reducible rfl)|(go_simp;omega)
      simp only[Act.put,zB,zC,zD]
      refine tRun [(8,24,some (.bool true)),(9,25,some (.func (.func 44) #[] #[])),(10,26,some (.slice (some ⟨b0,off,none⟩) n c)),(11,27,some (.int .i64 (k:Int)))] hHeld (by kernel_rfl) ?_
      simp only[runA,Act.put,zB,zC,zD]
      refine tVal 12 28 (.int .i64 (j:Int)) hHeld (by kernel_rfl) (fun w' hSw=>?_) ?_
      ·simp only[zE,zF,zG,zH,zI];first|(go_simp;done)|(with_reducible rfl)|(go_simp;omega)
      simp only[Act.put,zB,zC,zD]
      refine tVal 13 29 (.pointer (some ⟨b0,off+j*8,none⟩)) hHeld (by kernel_rfl) (fun w' hSw=>?_) ?_
      ·simp only[zE,zF,zG,zH,zI];first|(go_simp;done)|(with_reducible rfl)|(go_simp;omega)
      simp only[Act.put,zB,zC,zD]
      refine tLoad 14 30 41 (.tmp 29) b0 (off+j*8) [.string y.name,.int .i64 y.typ,.slice Au1 y.dims.length cu1,.slice Au2 y.chunks.length cu2,.string y.fill,.string y.unit,.slice Au3 y.stages.length cu3,.slice Au4 y.attrs.length cu4] hHeld (by kernel_rfl) (by kernel_rfl) rfl (fun w' hw'=>yad ry hw'.2 hb0) Tryz.underlying41 rfl (by kernel_rfl) ?_
      simp only[Act.put,zB,zC,zD]
      refine tRun [(16,32,some (.func (.func 44) #[] #[]))] hHeld (by kernel_rfl) ?_
      simp only[runA,Act.put,zB,zC,zD]
      refine tLoad 17 33 41 (.tmp 8) wr.heap.size 0 [.string x.name,.int .i64 x.typ,.slice Av1 x.dims.length cv1,.slice Av2 x.chunks.length cv2,.string x.fill,.string x.unit,.slice Av3 x.stages.length cv3,.slice Av4 x.attrs.length cv4] hHeld (by kernel_rfl) (by kernel_rfl) rfl (fun w' hw'=>hw'.1) Tryz.underlying41 rfl (by kernel_rfl) ?_
      simp only[Act.put,zB,zC,zD]
      refine tEnter 15 31 44 #[.agg #[.string y.name,.int .i64 y.typ,.slice Au1 y.dims.length cu1,.slice Au2 y.chunks.length cu2,.string y.fill,.string y.unit,.slice Au3 y.stages.length cu3,.slice Au4 y.attrs.length cu4]] (by kernel_rfl) (by kernel_rfl) (by kernel_rfl) (ybf y (.slice Au1 y.dims.length cu1) (.slice Au2 y.chunks.length cu2) (.slice Au3 y.stages.length cu3) (.slice Au4 y.attrs.length cu4) _) ?_
      rintro e w1 ⟨rfl,hb⟩
      refine⟨_,rfl,⟨yad hHeld.1 hb (World.block_lt_of_cell? _ _ (hHeld.1 0 _ rfl)),yac hHeld.2 hb⟩,fun hHeld=>?_⟩
      simp only[Act.put,zB,zC,zD]
      clear hb
      refine tEnter 18 34 44 #[.agg #[.string x.name,.int .i64 x.typ,.slice Av1 x.dims.length cv1,.slice Av2 x.chunks.length cv2,.string x.fill,.string x.unit,.slice Av3 x.stages.length cv3,.slice Av4 x.attrs.length cv4]] (by kernel_rfl) (by kernel_rfl) (by kernel_rfl) (ybf x (.slice Av1 x.dims.length cv1) (.slice Av2 x.chunks.length cv2) (.slice Av3 x.stages.length cv3) (.slice Av4 x.attrs.length cv4) _) ?_
      rintro e w1 ⟨rfl,hb⟩
      refine⟨_,rfl,⟨yad hHeld.1 hb (World.block_lt_of_cell? _ _ (hHeld.1 0 _ rfl)),yac hHeld.2 hb⟩,fun hHeld=>?_⟩
      simp only[Act.put,zB,zC,zD]
      clear hb
      refine tVal 19 35 (.bool true) hHeld (by kernel_rfl) (fun w' hSw=>?_) ?_
      ·simp only[zE,zF,zG,zH,zI];first|(go_simp;done)|(with_reducible rfl)|(go_simp;omega)
      simp only[Act.put,zB,zC,zD]
      refine tRun [(20,36,some (.bool true)),(21,37,some (.bool true))] hHeld (by kernel_rfl) ?_
      simp only[runA,Act.put,zB,zC,zD]
      refine wpAnyH_done (by kernel_rfl) (tNoP ?_) _
      have b2:=zh hHeld.2
      clear hHeld
      go_wp2
      go_ret
      exact⟨rfl,yac hB.out b2.out⟩
     ·rw[hl] at ew
      have HN:=zh (yfn hA.out hx2 hq (fun i b h hb=>by
       have:i=j:=by omega
       subst this
       rw[hy2] at hb
       injection hb with hb
       rw[<- hb];exact hl))
      clear HV HR HE hA hx hx2 hr hq hy hy2 hl hjk hk0
      go_wp2_with fail
      refine wp_region_noPanic ?_
      refine wp_region_held_drew (S:=fun w'=>w'.rangeAt wr.heap.size 0 [.string x.name,.int .i64 x.typ,.slice Av1 x.dims.length cv1,.slice Av2 x.chunks.length cv2,.string x.fill,.string x.unit,.slice Av3 x.stages.length cv3,.slice Av4 x.attrs.length cv4]/\Below wr.heap.size wr w') (by kernel_rfl) ⟨row8 (⟨by go_keep,by go_keep,by go_keep,by go_keep,by go_keep,by go_keep,by go_keep,by go_keep⟩),by (repeat (first|exact zJ _ _|assumption|refine yab ?_ _|refine zL ?_|refine yac ?_ (by assumption)|refine yaa ?_ _))⟩ (fun hHeld=>?_)
      refine tRun [(0,16,some (.func (.func 44) #[] #[]))] hHeld (by kernel_rfl) ?_
      simp only[runA,Act.put,zB,zC,zD]
      refine tLoad 1 17 41 (.tmp 8) wr.heap.size 0 [.string x.name,.int .i64 x.typ,.slice Av1 x.dims.length cv1,.slice Av2 x.chunks.length cv2,.string x.fill,.string x.unit,.slice Av3 x.stages.length cv3,.slice Av4 x.attrs.length cv4] hHeld (by kernel_rfl) (by kernel_rfl) rfl (fun w' hw'=>hw'.1) Tryz.underlying41 rfl (by kernel_rfl) ?_
      simp only[Act.put,zB,zC,zD]
      refine tEnter 2 18 44 #[.agg #[.string x.name,.int .i64 x.typ,.slice Av1 x.dims.length cv1,.slice Av2 x.chunks.length cv2,.string x.fill,.string x.unit,.slice Av3 x.stages.length cv3,.slice Av4 x.attrs.length cv4]] (by kernel_rfl) (by kernel_rfl) (by kernel_rfl) (ybf x (.slice Av1 x.dims.length cv1) (.slice Av2 x.chunks.length cv2) (.slice Av3 x.stages.length cv3) (.slice Av4 x.attrs.length cv4) _) ?_
      rintro e w1 ⟨rfl,hb⟩
      refine⟨_,rfl,⟨yad hHeld.1 hb (World.block_lt_of_cell? _ _ (hHeld.1 0 _ rfl)),yac hHeld.2 hb⟩,fun hHeld=>?_⟩
      simp only[Act.put,zB,zC,zD]
      clear hb
      refine tEnter 3 19 36 #[.string x.name] (by kernel_rfl) (by kernel_rfl) (by kernel_rfl) (VN _) ?_
      rintro e w2 ⟨rfl,rfl⟩
      refine⟨_,rfl,hHeld,fun hHeld=>?_⟩
      simp only[Act.put,zB,zC,zD]
      refine tRun [(4,20,some (.bool false)),(5,21,some (.bool false)),(6,22,some (.int .i64 (k:Int)))] hHeld (by kernel_rfl) ?_
      simp only[runA,Act.put,zB,zC,zD]
      refine tVal 7 23 (.bool true) hHeld (by kernel_rfl) (fun w' hSw=>?_) ?_
      ·simp only[zE,zF,zG,zH,zI];first|(go_simp;done)|(with_reducible rfl)|(go_simp;omega)
      simp only[Act.put,zB,zC,zD]
      refine tRun [(8,24,some (.bool true)),(9,25,some (.func (.func 44) #[] #[])),(10,26,some (.slice (some ⟨b0,off,none⟩) n c)),(11,27,some (.int .i64 (k:Int)))] hHeld (by kernel_rfl) ?_
      simp only[runA,Act.put,zB,zC,zD]
      refine tVal 12 28 (.int .i64 (j:Int)) hHeld (by kernel_rfl) (fun w' hSw=>?_) ?_
      ·simp only[zE,zF,zG,zH,zI];first|(go_simp;done)|(with_reducible rfl)|(go_simp;omega)
      simp only[Act.put,zB,zC,zD]
      refine tVal 13 29 (.pointer (some ⟨b0,off+j*8,none⟩)) hHeld (by kernel_rfl) (fun w' hSw=>?_) ?_
      ·simp only[zE,zF,zG,zH,zI];first|(go_simp;done)|(with_reducible rfl)|(go_simp;omega)
      simp only[Act.put,zB,zC,zD]
      refine tLoad 14 30 41 (.tmp 29) b0 (off+j*8) [.string y.name,.int .i64 y.typ,.slice Au1 y.dims.length cu1,.slice Au2 y.chunks.length cu2,.string y.fill,.string y.unit,.slice Au3 y.stages.length cu3,.slice Au4 y.attrs.length cu4] hHeld (by kernel_rfl) (by kernel_rfl) rfl (fun w' hw'=>yad ry hw'.2 hb0) Tryz.underlying41 rfl (by kernel_rfl) ?_
      simp only[Act.put,zB,zC,zD]
      refine tRun [(16,32,some (.func (.func 44) #[] #[]))] hHeld (by kernel_rfl) ?_
      simp only[runA,Act.put,zB,zC,zD]
      refine tLoad 17 33 41 (.tmp 8) wr.heap.size 0 [.string x.name,.int .i64 x.typ,.slice Av1 x.dims.length cv1,.slice Av2 x.chunks.length cv2,.string x.fill,.string x.unit,.slice Av3 x.stages.length cv3,.slice Av4 x.attrs.length cv4] hHeld (by kernel_rfl) (by kernel_rfl) rfl (fun w' hw'=>hw'.1) Tryz.underlying41 rfl (by kernel_rfl) ?_
      simp only[Act.put,zB,zC,zD]
      refine tEnter 15 31 44 #[.agg #[.string y.name,.int .i64 y.typ,.slice Au1 y.dims.length cu1,.slice Au2 y.chunks.length cu2,.string y.fill,.string y.unit,.slice Au3 y.stages.length cu3,.slice Au4 y.attrs.length cu4]] (by kernel_rfl) (by kernel_rfl) (by kernel_rfl) (ybf y (.slice Au1 y.dims.length cu1) (.slice Au2 y.chunks.length cu2) (.slice Au3 y.stages.length cu3) (.slice Au4 y.attrs.length cu4) _) ?_
      rintro e w1 ⟨rfl,hb⟩
      refine⟨_,rfl,⟨yad hHeld.1 hb (World.block_lt_of_cell? _ _ (hHeld.1 0 _ rfl)),yac hHeld.2 hb⟩,fun hHeld=>?_⟩
      simp only[Act.put,zB,zC,zD]
      clear hb
      refine tEnter 18 34 44 #[.agg #[.string x.name,.int .i64 x.typ,.slice Av1 x.dims.length cv1,.slice Av2 x.chunks.length cv2,.string x.fill,.string x.unit,.slice Av3 x.stages.length cv3,.slice Av4 x.attrs.length cv4]] (by kernel_rfl) (by kernel_rfl) (by kernel_rfl) (ybf x (.slice Av1 x.dims.length cv1) (.slice Av2 x.chunks.length cv2) (.slice Av3 x.stages.length cv3) (.slice Av4 x.attrs.length cv4) _) ?_
      rintro e w1 ⟨rfl,hb⟩
      refine⟨_,rfl,⟨yad hHeld.1 hb (World.block_lt_of_cell? _ _ (hHeld.1 0 _ rfl)),yac hHeld.2 hb⟩,fun hHeld=>?_⟩
      simp only[Act.put,zB,zC,zD]
      clear hb
      refine tVal 19 35 (.bool false) hHeld (by kernel_rfl) (fun w' hSw=>?_) ?_
      ·simp only[zE,zF,zG,zH,zI];first|(go_simp;done)|(with_reducible rfl)|(go_simp;omega)
      simp only[Act.put,zB,zC,zD]
      refine tRun [(20,36,some (.bool false)),(21,37,some (.bool false))] hHeld (by kernel_rfl) ?_
      simp only[runA,Act.put,zB,zC,zD]
      refine wpAnyH_done (by kernel_rfl) (tNoP ?_) _
      have b2:=zh hHeld.2
      clear hHeld
      go_wp2
      go_roundw
      case rel=>exact⟨k+1,by omega,by go_num,HN,zh (yac hB.out b2.out)⟩
      case measure=>simp only[intOf];omega
theorem yox {l:List UInt8} (h:l≠[]):slashL l<l.length:=by
 have:0<l.length:=List.length_pos_iff.2 h
 unfold slashL
 omega
theorem ycb {l up:List UInt8} (h:parentB l=some up):up.length<l.length:=by
 unfold parentB at h
 split at h
 ·cases h
 ·rename_i hn
  injection h with h
  have hp:pathB l=true:=by
   cases hq:pathB l
   ·exact absurd (.inr hq) hn
   ·rfl
  have hl:l≠[47]:=fun e=>hn (.inl e)
  have h0:l≠[]:=by rintro rfl;cases hp
  have h1:=yox h0
  rw[<- h,List.length_take]
  have:1<l.length:=by
   rcases l with _|⟨c,_|⟨d,l⟩⟩
   ·exact absurd rfl h0
   ·exfalso
    unfold pathB at hp
    rw[show ([c]==[47])=false by rw[beq_eq_false_iff_ne];exact hl,Bool.false_or,Bool.and_eq_true] at hp
    have:=eq_of_beq hp.1
    injection this with this
    exact hl (by rw[this])
   ·simp
  omega
theorem ybv {s:List GroupD} {n p:List UInt8} {k:Nat} (h:groupIx s p=none):resolveB s n (k+1) p=none:=by
 simp only[resolveB,h]
theorem ybw {s:List GroupD} {n p:List UInt8} {k g d:Nat} (h:groupIx s p=some g) (h2:dimIx ((s[g]?.map (·.dims)).getD []) n=some d):resolveB s n (k+1) p=some (g,d):=by
 rw[resolveB]
 split
 ·rename_i e;rw[h] at e;cases e
 ·rename_i g' e
  rw[h] at e
  injection e with e
  subst e
  rw[h2]
theorem ycs {s:List GroupD} {n p:List UInt8} {k g:Nat} (h:groupIx s p=some g) (h2:dimIx ((s[g]?.map (·.dims)).getD []) n=none):resolveB s n (k+1) p=match parentB p with|none=>none|some up=>resolveB s n k up:=by
 rw[resolveB]
 split
 ·rename_i e;rw[h] at e;cases e
 ·rename_i g' e
  rw[h] at e
  injection e with e
  subst e
  rw[h2]
  cases parentB p<;>rfl
theorem ydk {s:List GroupD} {n:List UInt8}:∀ {k j:Nat} {p:List UInt8},p.length<k->p.length<j->resolveB s n k p=resolveB s n j p
 | 0,_,_,h,_=>by omega
 | _,0,_,_,h=>by omega
 | k+1,j+1,p,h1,h2=>by
  cases hg:groupIx s p with
  | none=>rw[ybv hg,ybv hg]
  | some g=>
   cases hd:dimIx ((s[g]?.map (·.dims)).getD []) n with
   | some d=>rw[ybw hg hd,ybw hg hd]
   | none=>
    rw[ycs hg hd,ycs hg hd]
    cases hp:parentB p with
    | none=>rfl
    | some up=>
     have:=ycb hp
     exact ydk (by omega) (by omega)
def resV (o:Option (Nat×Nat)):Value:=match o with
 | none=>.tuple #[.int .i64 (-1),.int .i64 (-1)]
 | some x=>.tuple #[.int .i64 (x.1:Int),.int .i64 (x.2:Int)]
theorem yde {s:List GroupD} {p:List UInt8} {g:Nat} (h:groupIx s p=some g):∃ x,s[g]?=some x/\bl x.path=p:=by
 obtain⟨hlt,h1,_⟩:=List.findIdx?_eq_some_iff_getElem.1 h
 exact⟨s[g],List.getElem?_eq_getElem hlt,eq_of_beq h1⟩
theorem yes (v:Value) (xs:List GroupD) (P N:ByteArray) (w:World) (hV:VSchema w w.heap.size v xs) (hP:P.size<=4000000000) (hw:Ws w):Calls Tryz.prog 10 #[.agg #[v],.string P,.string N] w fun e w'=>e=.returned (resV (resolveB xs (bl N) (P.size+1) (bl P)))/\Below w.heap.size w w':=by
 obtain⟨A,c,rfl,hc1,hc2⟩:=hV.val
 obtain⟨n,hn⟩:∃ n,xs.length=n:=⟨_,rfl⟩
 rw[hn] at hV hc1 hc2 ⊢
 have nb:(n:Int)<=9223372036854775807:=by omega
 obtain⟨R,hR⟩:∃ R,resolveB xs (bl N) (P.size+1) (bl P)=R:=⟨_,rfl⟩
 rw[hR]
 have HR:=zh hR
 have HN:=zh hn
 have HV:=zh hV
 have HW:=zh hw
 have HP:=zh hP
 clear hV hw hR hn hc1 hc2 hP
 go_enter Tryz.func10,Tryz.ntmps10
 go_wp2
 have hx1:=yaa (Below.refl w.heap.size w) (.cells #[.slice A n c] 24)
 have hx2:(w.alloc (.cells #[.slice A n c] 24)).cell? ⟨w.heap.size,0,none⟩=some (.slice A n c):=by go_keep
 have hx3:w.heap.size<(w.alloc (.cells #[.slice A n c] 24)).heap.size:=by simp
 generalize hwx:w.alloc (.cells #[.slice A n c] 24)=wx at *
 have HX:=zh (And.intro hx1 (And.intro hx2 hx3))
 clear hx1 hx2 hx3 hwx
 go_loopw [1,8] (fun p b wr=>∃ T:ByteArray,p=.string T/\Hid (Below wx.heap.size wx wr)/\((b=.bool true/\Hid (T.size<=4000000000/\resolveB xs (bl N) (T.size+1) (bl T)=R))\/(b=.bool false/\Hid (R=none)))) (fun p b _=>match p,b with | .string T,.bool true=>T.size+1|_,_=>0)
 case atStart=>exact⟨P,rfl,zh (Below.refl _ _),.inl ⟨rfl,zh ⟨HP.out,HR.out⟩⟩⟩
 case round=>
  obtain⟨T,rfl,hB,⟨rfl,hT⟩|⟨rfl,hT⟩⟩:=hrel
  ·have hBw:=hB.out
   have hBx:Below w.heap.size w wr:=HX.out.1.trans (hBw.mono HX.out.1.size)
   have BX:=zh hBx
   have cS:wr.cell? ⟨w.heap.size,0,none⟩=some (.slice A n c):=(hBw.cell (p:=⟨w.heap.size,0,none⟩) HX.out.2.2).trans HX.out.2.1
   have GR:=ydv (.slice A n c) xs T wr ((VL.keeps yah HV.out hBx).lifts yai hBx.size)
   have hlt:w.heap.size<wr.heap.size:=Nat.lt_of_lt_of_le HX.out.2.2 hBw.size
   clear hBx hBw
   cases hg:groupIx xs (bl T) with
   | none=>
    rw[show xs.findIdx? (fun x=>bl x.path==bl T)=none from hg] at GR
    simp only[ixV] at GR
    have hRn:=hT.out.2.symm.trans (ybv hg)
    subst hRn
    clear HR HV HW hT hg
    go_wp2_with (go_at_call 13;(with_reducible refine GR.mono ?_);rintro e w1 ⟨rfl,hb⟩;have b1:Hid (Below w.heap.size w w1):=zh (yac BX.out hb);clear hb)
    go_ret2
    exact⟨rfl,b1.out⟩
   | some g=>
    rw[show xs.findIdx? (fun x=>bl x.path==bl T)=some g from hg] at GR
    simp only[ixV] at GR
    obtain⟨x,hx,_⟩:=yde hg
    have hgn:g<n:=by have:=(List.getElem?_eq_some_iff.1 hx).1;have:=HN.out;omega
    have hi:(g:Int)<(n:Int):=by omega
    obtain⟨b0,off,vs,rfl,hb0,_,hr,hp⟩:=HV.out.get hx
    obtain⟨v1,v2,v3,rfl,hpo,hd1,hd2,hd3⟩:=hp
    have CR:=zh (show ∀ w2,Below w.heap.size w w2->(w2.cell? ⟨b0,off+g*4,none⟩=some (.string x.path)/\w2.cell? ⟨b0,off+g*4+1,none⟩=some v1/\w2.cell? ⟨b0,off+g*4+2,none⟩=some v2/\w2.cell? ⟨b0,off+g*4+3,none⟩=some v3) from fun w2 hb=>
     ⟨(hb.cell (p:=⟨b0,off+g*4,none⟩) hb0).trans (hr 0 _ rfl),(hb.cell (p:=⟨b0,off+g*4+1,none⟩) hb0).trans (hr 1 _ rfl),(hb.cell (p:=⟨b0,off+g*4+2,none⟩) hb0).trans (hr 2 _ rfl),(hb.cell (p:=⟨b0,off+g*4+3,none⟩) hb0).trans (hr 3 _ rfl)⟩)
    have DM:=fun w2 (hb:Below w.heap.size w w2)=>ykh x.path v1 v2 v3 x.dims N w2 ((VL.keeps ybh hd1 hb).lifts ya2 hb.size)
    have hdx:(xs[g]?.map (·.dims)).getD []=x.dims:=by rw[hx];rfl
    cases hd:dimIx x.dims (bl N) with
    | some d=>
     rw[show x.dims.findIdx? (fun y=>bl y.name==bl N)=some d from hd] at DM
     simp only[ixV] at DM
     have hRn:=hT.out.2.symm.trans (ybw hg (by rw[hdx];exact hd))
     subst hRn
     clear HR HV HW hT hg hd hdx hd1 hd2 hd3 hr hx
     go_wp2_with (first
      | (go_at_call 32;(with_reducible refine(DM _ b1.out).mono ?_);rintro e w2 ⟨rfl,hb⟩;have b2:Hid (Below w.heap.size w w2):=zh (yac b1.out hb);clear hb)
      | (go_at_call 13;(with_reducible refine GR.mono ?_);rintro e w1 ⟨rfl,hb⟩;have k0:w1.cell? ⟨w.heap.size,0,none⟩=some (.slice (some ⟨b0,off,none⟩) n c):=(hb.cell (p:=⟨w.heap.size,0,none⟩) hlt).trans cS;have b1:Hid (Below w.heap.size w w1):=zh (yac BX.out hb);clear hb;obtain⟨c0,c1,c2,c3⟩:=CR.out w1 b1.out))
     go_ret2
     exact⟨rfl,b2.out⟩
    | none=>
     rw[show x.dims.findIdx? (fun y=>bl y.name==bl N)=none from hd] at DM
     simp only[ixV] at DM
     have hRn:=hT.out.2.symm.trans (ycs hg (by rw[hdx];exact hd))
     have hTs:=hT.out.1
     have PA:=fun w2 (hb:Below w.heap.size w w2)=>yfm T hTs w2 (HW.out.up hb)
     have hRn:R=match parentB (bl T) with|none=>none|some up=>resolveB xs (bl N) T.size up:=hRn
     clear HR HV HW hT hg hd hdx hd1 hd2 hd3 hr hx
     cases hpp:parentB (bl T) with
     | none=>
      rw[hpp] at hRn PA
      have HRn:=zh (show R=none from hRn)
      clear hRn hpp hTs
      go_wp2_with (first
       | (go_at_call 5;(with_reducible refine(PA _ b2.out).mono ?_);rintro e w3 ⟨hb,rfl⟩;have b3:Hid (Below wx.heap.size wx w3):=zh (yac bx2.out hb);clear hb)
       | (go_at_call 32;(with_reducible refine(DM _ b1.out).mono ?_);rintro e w2 ⟨rfl,hb⟩;have b2:Hid (Below w.heap.size w w2):=zh (yac b1.out hb);have bx2:Hid (Below wx.heap.size wx w2):=zh (yac bx1.out hb);clear hb)
       | (go_at_call 13;(with_reducible refine GR.mono ?_);rintro e w1 ⟨rfl,hb⟩;have k0:w1.cell? ⟨w.heap.size,0,none⟩=some (.slice (some ⟨b0,off,none⟩) n c):=(hb.cell (p:=⟨w.heap.size,0,none⟩) hlt).trans cS;have b1:Hid (Below w.heap.size w w1):=zh (yac BX.out hb);have bx1:Hid (Below wx.heap.size wx w1):=zh (yac hB.out hb);clear hb;obtain⟨c0,c1,c2,c3⟩:=CR.out w1 b1.out))
      go_roundw
      case rel=>exact⟨_,rfl,b3,.inr ⟨rfl,HRn⟩⟩
      case measure=>simp
     | some up=>
      rw[hpp] at hRn PA
      have HRn:=zh (show R=resolveB xs (bl N) T.size up from hRn)
      have HPP:=zh (And.intro (ycb hpp) hTs)
      clear hRn hpp hTs
      go_wp2_with (first
       | (go_at_call 5;(with_reducible refine(PA _ b2.out).mono ?_);rintro e w3 ⟨hb,T2,hT2,rfl⟩;have HT2:=zh hT2;clear hT2;have b3:Hid (Below wx.heap.size wx w3):=zh (yac bx2.out hb);clear hb)
       | (go_at_call 32;(with_reducible refine(DM _ b1.out).mono ?_);rintro e w2 ⟨rfl,hb⟩;have b2:Hid (Below w.heap.size w w2):=zh (yac b1.out hb);have bx2:Hid (Below wx.heap.size wx w2):=zh (yac bx1.out hb);clear hb)
       | (go_at_call 13;(with_reducible refine GR.mono ?_);rintro e w1 ⟨rfl,hb⟩;have k0:w1.cell? ⟨w.heap.size,0,none⟩=some (.slice (some ⟨b0,off,none⟩) n c):=(hb.cell (p:=⟨w.heap.size,0,none⟩) hlt).trans cS;have b1:Hid (Below w.heap.size w w1):=zh (yac BX.out hb);have bx1:Hid (Below wx.heap.size wx w1):=zh (yac hB.out hb);clear hb;obtain⟨c0,c1,c2,c3⟩:=CR.out w1 b1.out))
      have hz:T2.size<T.size:=by
       have:=HPP.out.1
       rw[<- HT2.out,yag,yag] at this
       exact this
      have HZ:=zh hz
      go_roundw
      case rel=>exact⟨T2,rfl,b3,.inl ⟨rfl,zh ⟨by have:=HZ.out;have:=HPP.out.2;omega,by rw[HRn.out,<- HT2.out];exact ydk (by rw[yag];omega) (by rw[yag];exact HZ.out)⟩⟩⟩
      case measure=>have:=HZ.out;simp only[];omega
  ·have hRn:=hT.out
   subst hRn
   have b1:Hid (Below w.heap.size w wr):=zh (HX.out.1.trans (hB.out.mono HX.out.1.size))
   clear HR HV HW hT HX HP hB
   go_wp2
   go_ret2
   exact⟨rfl,b1.out⟩
theorem Tryz.infoInt:(Tryz.prog.info? 3).map (fun i=>(i.zero,i.size,i.bytes))=some (some (.int .i64 0),1,8):=by kernel_rfl
def iV (x:Int):Value:=.int .i64 x
def RowI (w wr:World) (v:Value) (l:List Int):Prop:=wr.ownsRow w.heap.size 3 1 v l.length (l.map iV)/\Below w.heap.size w wr
theorem RowI.start (w:World):RowI w w (.slice none 0 0) []:=⟨World.ownsRow_nil _ _ _ _,Below.refl _ _⟩
theorem RowI.up {w w1 w2:World} {v:Value} {l:List Int} (h:RowI w w1 v l) (hb:Below w1.heap.size w1 w2):RowI w w2 v l:=⟨yal h.1 hb,yac h.2 hb⟩
theorem RowI.vl {w w1:World} {v:Value} {l:List Int} (h:RowI w w1 v l) (hin:∀ x ∈ l,inI x) (hl:l.length<=9223372036854775807):VL kInt 1 w1 w1.heap.size v l:=by
 have hcells:=fun g=>h.1.cells (g:=g)
 rcases h.1.2 with ⟨hv,hn⟩|⟨g,cap,cur,hv,_,hg,hcap,_⟩
 ·rw[hv]
  rw[List.eq_nil_of_length_eq_zero hn]
  exact VL.nil
 ·refine⟨_,_,_,hv,rfl,hcap,hl,(fun e=>by cases e),fun _=>⟨g,0,rfl,(Array.getElem?_eq_some_iff.1 hg).1,fun k x hx=>⟨[iV x],rfl,fun j u hj=>?_,rfl,hin x (List.mem_of_getElem? hx)⟩⟩⟩
  match j,hj with
  | 0,hj=>
   injection hj with hj
   have:=hcells g (by rw[hv];rfl) k (iV x) (by rw[List.getElem?_map,hx];rfl)
   have ha:(⟨g,0,none⟩:Addr).add k=⟨g,0+k*1+0,none⟩:=by unfold Addr.add;split<;>simp_all
   rw[ha] at this
   rw[<- hj];exact this
theorem ydh (x:Int):∀ u ∈ [iV x],u.oneCell'=true:=by
 intro u hu
 rw[List.mem_singleton.1 hu];rfl
theorem ycy {s:List GroupD} {n:List UInt8}:∀ {k:Nat} {p:List UInt8} {g d:Nat},resolveB s n k p=some (g,d)->∃ x y,s[g]?=some x/\x.dims[d]?=some y/\bl y.name=n
 | 0,_,_,_,h=>by cases h
 | k+1,p,g,d,h=>by
  cases hg:groupIx s p with
  | none=>rw[ybv hg] at h;cases h
  | some g'=>
   cases hd:dimIx ((s[g']?.map (·.dims)).getD []) n with
   | some d'=>
    rw[ybw hg hd] at h
    injection h with h
    injection h with h1 h2
    subst h1 h2
    obtain⟨x,hx,_⟩:=yde hg
    rw[hx] at hd
    obtain⟨hlt,h1,_⟩:=List.findIdx?_eq_some_iff_getElem.1 hd
    exact⟨x,x.dims[d'],hx,List.getElem?_eq_getElem hlt,eq_of_beq h1⟩
   | none=>
    rw[ycs hg hd] at h
    cases hp:parentB p with
    | none=>rw[hp] at h;cases h
    | some up=>rw[hp] at h;exact ycy h
def sizeOf (s:List GroupD) (p:List UInt8) (n:ByteArray):Option Int:=(resolveB s (bl n) (p.length+1) p).map (sizeAt s)
theorem yty {α β:Type} {f:α->Option β} {l:List α} {k:Nat} {x:α} (hk:l[k]?=some x) (h:f x=none):l.mapM f=none:=by
 induction l generalizing k with
 | nil=>cases hk
 | cons a l ih=>
  rw[List.mapM_cons]
  cases k with
  | zero=>injection hk with hk;rw[hk,h];rfl
  | succ k=>
   rw[ih hk]
   cases f a<;>rfl
theorem yop {α β:Type} {f:α->Option β} {l:List α} {k:Nat} {x:α} {y:β} {ys:List β} (hk:l[k]?=some x) (h:f x=some y) (h0:(l.take k).mapM f=some ys):(l.take (k+1)).mapM f=some (ys++[y]):=by
 rw[List.take_add_one,hk,List.mapM_append,h0]
 simp[h]
theorem yf6 {α β:Type} {f:α->Option β}:∀ {l:List α} {ys:List β},l.mapM f=some ys->ys.length=l.length
 | [],ys,h=>by simp at h;rw[h];rfl
 | a::l,ys,h=>by
  rw[List.mapM_cons] at h
  cases ha:f a with
  | none=>rw[ha] at h;cases h
  | some b=>
   cases hl:l.mapM f with
   | none=>rw[ha,hl] at h;cases h
   | some bs=>
    rw[ha,hl] at h
    injection h with h
    rw[<- h,List.length_cons,List.length_cons,yf6 hl]
theorem ykd {s:List GroupD} {g d:Nat} {x:GroupD} {y:DimD} (hx:s[g]?=some x) (hy:x.dims[d]?=some y):sizeAt s (g,d)=y.size:=by
 unfold sizeAt
 rw[hx]
 show ((x.dims[d]?).map (·.size)).getD 0=_
 rw[hy];rfl
def ShapeR (o:Option (List Int)) (w:World) (e:Ending) (w':World):Prop:=Below w.heap.size w w'/\match o with
 | none=>e=.returned (.tuple #[.slice none 0 0,.bool false])
 | some l=>∃ v,e=.returned (.tuple #[v,.bool true])/\RowI w w' v l
theorem ygq (v:Value) (xs:List GroupD) (P:ByteArray) (x:VarD) (v1 v2 v3 v4:Value) (w:World) (hV:VSchema w w.heap.size v xs) (hP:P.size<=4000000000) (hd:VL kStr 1 w w.heap.size v1 x.dims) (hdl:x.dims.length<=1000000000) (hw:Ws w) :
  Calls Tryz.prog 15 #[.agg #[v],.string P,.agg #[.string x.name,.int .i64 x.typ,v1,v2,.string x.fill,.string x.unit,v3,v4]] w (ShapeR (shapeB xs (bl P) x) w):=by
 obtain⟨i0,hi,hz0,hz1,hz2⟩:=info_parts Tryz.infoInt
 have hsh:shapeB xs (bl P) x=x.dims.mapM (sizeOf xs (bl P)):=rfl
 rw[hsh]
 generalize x.dims=ds at *
 obtain⟨A,c,rfl,hc1,hc2⟩:=hd.val
 obtain⟨m,hm⟩:∃ m,ds.length=m:=⟨_,rfl⟩
 obtain⟨A2,c2,rfl,hn1,hn2⟩:=hV.val
 obtain⟨n,hn⟩:∃ n,xs.length=n:=⟨_,rfl⟩
 rw[hm] at hd hc1 hc2 hdl
 rw[hn] at hV hn1 hn2
 rw[hm,hn]
 have mb:(m:Int)<=1000000000:=by omega
 have nb:(n:Int)<=9223372036854775807:=by omega
 obtain⟨R,hR⟩:∃ R,ds.mapM (sizeOf xs (bl P))=R:=⟨_,rfl⟩
 rw[hR]
 have HR:=zh hR
 have HM:=zh hm
 have HN:=zh hn
 have HD:=zh hd
 have HV:=zh hV
 have HW:=zh hw
 have HP:=zh hP
 clear hV hd hw hR hn hm hc1 hc2 hn1 hn2 hP
 go_enter Tryz.func15,Tryz.ntmps15
 go_wp2
 have hx1:Below w.heap.size w ((w.alloc (.cells #[.slice A2 n c2] 24)).alloc (.cells #[.string x.name,.int .i64 x.typ,.slice A m c,v2,.string x.fill,.string x.unit,v3,v4] 41)):=by (repeat (first|exact zJ _ _|assumption|refine yab ?_ _|refine zL ?_|refine yac ?_ (by assumption)|refine yaa ?_ _))
 have hx2:((w.alloc (.cells #[.slice A2 n c2] 24)).alloc (.cells #[.string x.name,.int .i64 x.typ,.slice A m c,v2,.string x.fill,.string x.unit,v3,v4] 41)).cell? ⟨w.heap.size,0,none⟩=some (.slice A2 n c2):=by go_keep
 have hx3:w.heap.size<((w.alloc (.cells #[.slice A2 n c2] 24)).alloc (.cells #[.string x.name,.int .i64 x.typ,.slice A m c,v2,.string x.fill,.string x.unit,v3,v4] 41)).heap.size:=by simp;omega
 generalize hwx:World.alloc _ (.cells #[.string x.name,.int .i64 x.typ,.slice A m c,v2,.string x.fill,.string x.unit,v3,v4] 41)=wx at *
 have HX:=zh (And.intro hx1 (And.intro hx2 hx3))
 clear hx1 hx2 hx3 hwx
 have R0:=zh (RowI.start wx)
 go_loopw [8,16] (fun v i wr=>∃ k:Nat,k<=m/\i=.int .i64 (k:Int)/\∃ l:List Int,Hid ((ds.take k).mapM (sizeOf xs (bl P))=some l/\RowI wx wr v l)) (fun _ i _=>(m - intOf i).toNat)
 case atStart=>exact⟨0,Nat.zero_le _,rfl,[],zh ⟨rfl,R0.out⟩⟩
 case round=>
  clear R0
  obtain⟨k,hk,rfl,l,hL⟩:=hrel
  by_cases hkm:k=m
  ·have hRl:R=some l:=by
    have:=hL.out.1
    rw[hkm,List.take_of_length_le (by have:=HM.out;omega)] at this
    exact HR.out.symm.trans this
   subst hkm
   subst hRl
   have h1:=zh hL.out.2
   clear hL HR HM HN HD HV HW HP
   go_wp2
   go_ret2
   exact⟨HX.out.1.trans (h1.out.2.mono HX.out.1.size),_,rfl,⟨⟨h1.out.1.1,by first|exact h1.out.1.2.imp id (fun ⟨g,cap,cur,e1,e2,e3⟩=>⟨g,cap,cur,e1,Nat.le_trans HX.out.1.size e2,e3⟩)⟩,HX.out.1.trans (h1.out.2.mono HX.out.1.size)⟩⟩
  ·have hlt:k<m:=by omega
   have hki:(k:Int)<(m:Int):=by omega
   obtain⟨d,hd⟩:∃ d,ds[k]?=some d:=⟨_,List.getElem?_eq_getElem (by have:=HM.out;omega)⟩
   obtain⟨b0,off,vs,rfl,hb0,_,hr,hp⟩:=HD.out.get hd
   obtain⟨rfl,hds⟩:=hp
   have hRow:=zh hL.out.2
   have hwr:Below wx.heap.size wx wr:=hL.out.2.2
   have BX:=zh (show Below w.heap.size w wr from HX.out.1.trans (hwr.mono HX.out.1.size))
   have c0:wr.cell? ⟨b0,off+k,none⟩=some (.string d):=by
    have:=hr 0 _ rfl
    rw[Nat.mul_one,Nat.add_zero] at this
    exact(BX.out.cell (p:=⟨b0,off+k,none⟩) hb0).trans this
   have cS:wr.cell? ⟨w.heap.size,0,none⟩=some (.slice A2 n c2):=(hwr.cell (p:=⟨w.heap.size,0,none⟩) HX.out.2.2).trans HX.out.2.1
   have hlt2:w.heap.size<wr.heap.size:=Nat.lt_of_lt_of_le HX.out.2.2 hwr.size
   have RE:=yes (.slice A2 n c2) xs P d wr ((VL.keeps yah HV.out BX.out).lifts yai BX.out.size) HP.out (HW.out.up BX.out)
   have hsz:sizeOf xs (bl P) d=(resolveB xs (bl d) (P.size+1) (bl P)).map (sizeAt xs):=by unfold sizeOf;rw[yag]
   clear hwr hr
   cases hre:resolveB xs (bl d) (P.size+1) (bl P) with
   | none=>
    rw[hre] at hsz RE
    simp only[resV] at RE
    have hRn:=HR.out.symm.trans (yty hd hsz)
    subst hRn
    clear hL HR HM HN HD HV HW HP hsz hre hRow hd
    go_wp2_with (go_at_call 10;(with_reducible refine RE.mono ?_);rintro e w1 ⟨rfl,hb⟩;have b1:Hid (Below w.heap.size w w1):=zh (yac BX.out hb);clear hb)
    go_ret2
    exact⟨b1.out,rfl⟩
   | some gd=>
    obtain⟨g,di⟩:=gd
    obtain⟨gx,y,hgx,hy,_⟩:=ycy hre
    rw[hre] at hsz RE
    simp only[resV] at RE
    have hgn:g<n:=by have:=(List.getElem?_eq_some_iff.1 hgx).1;have:=HN.out;omega
    have hgi:(g:Int)<(n:Int):=by omega
    obtain⟨b2,off2,vs,rfl,hb2,_,hr2,hp2⟩:=HV.out.get hgx
    obtain⟨u1,u2,u3,rfl,_,hd1,_,_⟩:=hp2
    obtain⟨A3,c3,rfl,hq1,hq2⟩:=hd1.val
    obtain⟨q,hq⟩:∃ q,gx.dims.length=q:=⟨_,rfl⟩
    have hdq:di<q:=by have:=(List.getElem?_eq_some_iff.1 hy).1;omega
    have hdi:(di:Int)<(q:Int):=by omega
    have qb:(q:Int)<=9223372036854775807:=by omega
    obtain⟨b3,off3,vs,rfl,hb3,_,hr3,hp3⟩:=hd1.get hy
    obtain⟨rfl,_,hyi⟩:=hp3
    rw[hq] at hr2
    have CR:=zh (show ∀ w2,Below w.heap.size w w2->(w2.cell? ⟨b2,off2+g*4+1,none⟩=some (.slice (some ⟨b3,off3,none⟩) q c3)/\w2.cell? ⟨b3,off3+di*3+1,none⟩=some (.int .i64 y.size)) from fun w2 hb=>
     ⟨(hb.cell (p:=⟨b2,off2+g*4+1,none⟩) hb2).trans (hr2 1 _ rfl),(hb.cell (p:=⟨b3,off3+di*3+1,none⟩) hb3).trans (hr3 1 _ rfl)⟩)
    have hsz2:sizeOf xs (bl P) d=some y.size:=by rw[hsz];show some (sizeAt xs (g,di))=_;rw[ykd hgx hy]
    have HL:=zh (yop hd hsz2 hL.out.1)
    have hll:l.length=k:=by
     have:=yf6 hL.out.1
     rw[List.length_take,HM.out] at this
     omega
    have lb:l.length<=1000000000:=by omega
    clear hL HR HN HD HV HW HP hsz hre hd hd1 hr2 hr3 hgx hy hq hq1 hq2 hsz2 hll
    generalize y.size=z at *
    go_wp2_with (first
     | (at_builtin;refine wpList_append_own_at _ rfl (.tmp 29) (.tmp 40) _ rfl wx.heap.size 3 i0 (.int .i64 0) 1 8 Tryz.underlying37 hi hz0 hz1 hz2 rfl (by decide) _ _ _ rfl (hO.out.alloc _) ⟨w1.heap.size,0,none⟩ 1 1 [iV z] rfl rfl (cell_one_new _ _ _) (ydh z) (by unfold maxLen;omega) (by omega) (yaa hB1.out _).size ?_;intro v2 w2 a2 g2 m2 l2;have B2:=zh (yan (hO.out.alloc _) (yaa hB1.out _) g2);have A2:=zh a2;clear a2 g2 m2 l2)
     | (go_at_call 10;(with_reducible refine RE.mono ?_);rintro e w1 ⟨rfl,hb⟩;have k0:w1.cell? ⟨w.heap.size,0,none⟩=some (.slice (some ⟨b2,off2,none⟩) n c2):=(hb.cell (p:=⟨w.heap.size,0,none⟩) hlt2).trans cS;have b1:Hid (Below w.heap.size w w1):=zh (yac BX.out hb);have hO:=zh (hRow.out.up hb).1;have hB1:=zh (hRow.out.up hb).2;clear hb;obtain⟨e1,e2⟩:=CR.out w1 b1.out))
    go_roundw
    case rel=>
     refine⟨k+1,by omega,by go_num,l++[z],zh ⟨HL.out,?_,B2.out⟩⟩
     have R:=A2.out
     rw[List.length_append,List.map_append]
     exact R
    case measure=>simp only[intOf];omega
def cmpS (a b:List UInt8):Int:=if Op.bytesLess a b then -1 else if Op.bytesLess b a then 1 else 0
theorem yqa (a b:List UInt8):cmpS a b<0 ↔ Op.bytesLess a b=true:=by
 unfold cmpS
 cases Op.bytesLess a b<;>cases Op.bytesLess b a<;>simp
theorem ynb (S N:ByteArray) (w:World):Calls Tryz.prog 105 #[.string S,.string N] w fun e w'=>e=.returned (.int .i64 (cmpS (bl S) (bl N)))/\w=w':=by
 have NN:=fun (S:ByteArray) (w:World)=>(show Calls Tryz.prog 149 #[.string S] w fun e w'=>e=.returned (.bool false)/\w=w' from by
  go_enter Tryz.func149,Tryz.ntmps149
  go_wp2
  go_ret
  exact⟨rfl,rfl⟩)
 have e1:Op.bytesLess S.toList N.toList=Op.bytesLess (bl S) (bl N):=by rw[Lib.toList_data,Lib.toList_data];rfl
 have e2:Op.bytesLess N.toList S.toList=Op.bytesLess (bl N) (bl S):=by rw[Lib.toList_data,Lib.toList_data];rfl
 obtain⟨r,hr⟩:∃ r,cmpS (bl S) (bl N)=r:=⟨_,rfl⟩
 rw[hr]
 unfold cmpS at hr
 have hq:Op.bytesLess (bl S) (bl N)=false->(S.toList==N.toList) = !(Op.bytesLess (bl N) (bl S)):=fun h1=>by
  have e3:S.toList=bl S:=by rw[Lib.toList_data];rfl
  have e4:N.toList=bl N:=by rw[Lib.toList_data];rfl
  rw[e3,e4]
  cases h2:Op.bytesLess (bl N) (bl S)
  ·rw[yl6 h1 h2];simp
  ·have:=yto h2
   simpa using fun e=>this e.symm
 cases h1:Op.bytesLess (bl S) (bl N)
 ·have hq:=hq h1
  cases h2:Op.bytesLess (bl N) (bl S)<;>rw[h1] at e1<;>rw[h2] at e2 hq<;>rw[h1,h2] at hr<;>simp at hr<;>subst hr<;>clear h1 h2
  all_goals
   go_enter Tryz.func105,Tryz.ntmps105
   go_wp2_with (go_at_call 149;refine(NN _ _).mono ?_;rintro e w' ⟨rfl,rfl⟩)
   go_ret
   exact⟨rfl,rfl⟩
 ·rw[h1] at e1 hr
  simp at hr
  subst hr
  clear h1 hq e2
  go_enter Tryz.func105,Tryz.ntmps105
  go_wp2_with (go_at_call 149;refine(NN _ _).mono ?_;rintro e w' ⟨rfl,rfl⟩)
  go_ret
  exact⟨rfl,rfl⟩
theorem yo9 (x:DimD) (N:ByteArray) (b:Nat) (w:World) (hc:w.cell? ⟨b,0,none⟩=some (.func (.func 42) #[] #[])):Calls Tryz.prog 109 #[.agg #[.string x.name,.int .i64 x.size,.bool x.opn],.string N,.pointer (some ⟨b,0,none⟩)] w fun e w'=>e=.returned (.int .i64 (cmpS (bl x.name) (bl N)))/\Below w.heap.size w w':=by
 have NM:=fun w'=>ya3 x w'
 have CM:=fun w'=>ynb x.name N w'
 have hb:b<w.heap.size:=World.block_lt_of_cell? _ _ hc
 go_enter Tryz.func109,Tryz.ntmps109
 go_wp2_with (first
  | (go_at_call 105;(with_reducible refine(CM _).mono ?_);rintro e w2 ⟨rfl,rfl⟩)
  | (go_at_call 42;(with_reducible refine(NM _).mono ?_);rintro e w1 ⟨rfl,hb1⟩;have b1:Below w.heap.size w w1:=(by (repeat (first|exact zJ _ _|assumption|refine yab ?_ _|refine zL ?_|refine yac ?_ (by assumption)|refine yaa ?_ _)));clear hb1))
 go_ret
 exact⟨rfl,b1⟩
theorem ysb (A:Option Addr) (n c b:Nat) (xs:List DimD) (N:ByteArray) (at_:Nat) (w:World) (hV:VL kDim 3 w w.heap.size (.slice A n c) xs) (hn:xs.length=n) (hn2:n<=1000000000) (hc:w.cell? ⟨b,0,none⟩=some (.func (.func 42) #[] #[])) (hat:at_<=n)
  (h1:∀ k x,xs[k]?=some x->k<at_->Op.bytesLess (bl x.name) (bl N)=true) (h2:∀ k x,xs[k]?=some x->at_<=k->Op.bytesLess (bl x.name) (bl N)=false) :
  Calls Tryz.prog 108 #[.slice A n c,.string N,.func (.func 109) #[] #[.pointer (some ⟨b,0,none⟩)]] w fun e w'=>(∃ r:Value,e=.returned (.tuple #[.int .i64 (at_:Int),r]))/\Below w.heap.size w w':=by
 have CL:=fun x w' hc=>yo9 x N b w' hc
 have hb:b<w.heap.size:=World.block_lt_of_cell? _ _ hc
 have nb:(n:Int)<=1000000000:=by omega
 have HV:=zh hV
 have H1:=zh h1
 have H2:=zh h2
 have HC:=zh hc
 clear hV h1 h2 hc
 go_enter Tryz.func108,Tryz.ntmps108
 go_wp2
 go_loopw [9,10] (fun s9 s10 wr=>∃ p q:Nat,p<=at_/\at_<=q/\q<=n/\s9=.int .i64 (p:Int)/\s10=.int .i64 (q:Int)/\Hid (Below w.heap.size w wr)) (fun s9 s10 _=>(intOf s10 - intOf s9).toNat)
 case atStart=>exact⟨0,n,Nat.zero_le _,hat,Nat.le_refl _,rfl,rfl,zh (Below.refl _ _)⟩
 case round=>
  obtain⟨p,q,hp,hq,hqn,rfl,rfl,hB⟩:=hrel
  have hcw:wr.cell? ⟨b,0,none⟩=some (.func (.func 42) #[] #[]):=(hB.out.cell (p:=⟨b,0,none⟩) hb).trans HC.out
  by_cases hpq:p<q
  ·have hlt:(p:Int)<(q:Int):=by omega
   obtain⟨h,hh⟩:∃ h:Nat,h=(p+q) / 2:=⟨_,rfl⟩
   have hhi:((p:Int)+(q:Int)) / 2=(h:Int):=by omega
   clear hh
   have hhn:(h:Int)<(n:Int):=by omega
   have hpb:(p:Int)+(q:Int)<=2000000000:=by omega
   obtain⟨x,hx⟩:∃ x,xs[h]?=some x:=⟨_,List.getElem?_eq_getElem (by omega)⟩
   obtain⟨b0,off,vs,rfl,hb0,_,hr,hP⟩:=HV.out.get hx
   obtain⟨rfl,_,_⟩:=hP
   have e0:wr.cell? ⟨b0,off+h*3,none⟩=some (.string x.name):=(hB.out.cell (p:=⟨b0,off+h*3,none⟩) hb0).trans (hr 0 _ rfl)
   have e1:wr.cell? ⟨b0,off+h*3+1,none⟩=some (.int .i64 x.size):=(hB.out.cell (p:=⟨b0,off+h*3+1,none⟩) hb0).trans (hr 1 _ rfl)
   have e2:wr.cell? ⟨b0,off+h*3+2,none⟩=some (.bool x.opn):=(hB.out.cell (p:=⟨b0,off+h*3+2,none⟩) hb0).trans (hr 2 _ rfl)
   by_cases hl:Op.bytesLess (bl x.name) (bl N)=true
   ·have hk:h<at_:=by
     rcases Nat.lt_or_ge h at_ with hk|hk
     ·exact hk
     ·have:=H2.out h x hx hk;rw[hl] at this;cases this
    obtain⟨r,hr0⟩:∃ r,cmpS (bl x.name) (bl N)=r:=⟨_,rfl⟩
    have hr1:r<0:=by rw[<- hr0];exact(yqa _ _).2 hl
    have CL:=CL x
    rw[hr0] at CL
    clear hr hr0 hx hl HV
    go_wp2_with (go_at_call 109;(with_reducible refine(CL _ hcw).mono ?_);rintro e w1 ⟨rfl,hb1⟩;have b1:=zh hb1;clear hb1)
    go_roundw
    case rel=>exact⟨h+1,q,by omega,hq,hqn,by go_num,rfl,zh (yac hB.out b1.out)⟩
    case measure=>simp[intOf];omega
   ·have hk:at_<=h:=by
     rcases Nat.lt_or_ge h at_ with hk|hk
     ·exact absurd (H1.out h x hx hk) hl
     ·exact hk
    obtain⟨r,hr0⟩:∃ r,cmpS (bl x.name) (bl N)=r:=⟨_,rfl⟩
    have hr1:¬r<0:=by rw[<- hr0];exact fun h=>hl ((yqa _ _).1 h)
    have CL:=CL x
    rw[hr0] at CL
    clear hr hr0 hx hl HV
    go_wp2_with (go_at_call 109;(with_reducible refine(CL _ hcw).mono ?_);rintro e w1 ⟨rfl,hb1⟩;have b1:=zh hb1;clear hb1)
    go_roundw
    case rel=>exact⟨p,h,hp,hk,by omega,rfl,rfl,zh (yac hB.out b1.out)⟩
    case measure=>simp[intOf];omega
  ·obtain rfl:p=at_:=by omega
   obtain rfl:q=p:=by omega
   by_cases hend:q<n
   ·have hlt:(q:Int)<(n:Int):=by omega
    obtain⟨h,hh⟩:∃ h:Nat,h=q:=⟨_,rfl⟩
    obtain⟨x,hx⟩:∃ x,xs[h]?=some x:=⟨_,List.getElem?_eq_getElem (by omega)⟩
    obtain⟨b0,off,vs,rfl,hb0,_,hr,hP⟩:=HV.out.get hx
    obtain⟨rfl,_,_⟩:=hP
    have e0:wr.cell? ⟨b0,off+h*3,none⟩=some (.string x.name):=(hB.out.cell (p:=⟨b0,off+h*3,none⟩) hb0).trans (hr 0 _ rfl)
    have e1:wr.cell? ⟨b0,off+h*3+1,none⟩=some (.int .i64 x.size):=(hB.out.cell (p:=⟨b0,off+h*3+1,none⟩) hb0).trans (hr 1 _ rfl)
    have e2:wr.cell? ⟨b0,off+h*3+2,none⟩=some (.bool x.opn):=(hB.out.cell (p:=⟨b0,off+h*3+2,none⟩) hb0).trans (hr 2 _ rfl)
    subst hh
    obtain⟨r,hr0⟩:∃ r,cmpS (bl x.name) (bl N)=r:=⟨_,rfl⟩
    have CL:=CL x
    rw[hr0] at CL
    clear hr hr0 hx HV
    go_wp2_with (go_at_call 109;(with_reducible refine(CL _ hcw).mono ?_);rintro e w1 ⟨rfl,hb1⟩;have b1:=zh hb1;clear hb1)
    all_goals (go_ret2;exact⟨⟨_,rfl⟩,yac hB.out b1.out⟩)
   ·have hlt:¬(q:Int)<(n:Int):=by omega
    go_wp2
    go_ret2
    exact⟨⟨_,rfl⟩,hB.out⟩
end Go.Proofs.YtajmjllhdcdkmaaGreatDoor
