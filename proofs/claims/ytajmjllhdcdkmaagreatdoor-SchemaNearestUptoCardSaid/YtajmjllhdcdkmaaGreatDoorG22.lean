import Derived.Test.YtajmjllhdcdkmaaGreatDoorZ
import Derived.Test.YtajmjllhdcdkmaaGreatDoorG12
import Derived.Test.YtajmjllhdcdkmaaGreatDoorG17
import Derived.Test.YtajmjllhdcdkmaaGreatDoorG18
import Derived.Test.YtajmjllhdcdkmaaGreatDoorG19
import Derived.Test.YtajmjllhdcdkmaaGreatDoorG21
set_option maxRecDepth 100000
set_option maxHeartbeats 12800000
namespace Go.Proofs.YtajmjllhdcdkmaaGreatDoor
open Go.RowKit Dg Q Num Str
def okC (c:Int):Bool:=decide (1<=c/\c<=1024)
theorem yrg {α:Type} {l:List α} {k:Nat} {d:α} (hk:l[k]?=some d) (h:d ∈ l.take k):¬l.Nodup:=by
 intro hn
 obtain⟨i,hi⟩:=List.mem_iff_getElem?.1 h
 rw[List.getElem?_take] at hi
 split at hi
 ·rename_i hik
  obtain⟨h1,h2⟩:=List.getElem?_eq_some_iff.1 hi
  obtain⟨h3,h4⟩:=List.getElem?_eq_some_iff.1 hk
  exact List.pairwise_iff_getElem.1 hn i k h1 h3 hik (h2.trans h4.symm)
 ·cases hi
theorem yry {α:Type} {l:List α} {k:Nat} {d:α} (h0:(l.take k).Nodup) (hk:l[k]?=some d) (h:d ∉ l.take k):(l.take (k+1)).Nodup:=by
 rw[List.take_add_one,hk,List.nodup_append]
 refine⟨h0,by simp,fun a ha b hb=>?_⟩
 simp at hb
 rw[hb]
 exact fun e=>h (by rw[<- e];exact ha)
theorem yth (v:VarD):varB v=(decide (1<=v.typ/\v.typ<=5/\v.dims.length<=4/\v.chunks.length=v.dims.length/\v.stages.length<=4)&&((v.chunks.all okC&&decide (v.dims.map bl).Nodup)&&(v.stages.all stageB&&(unitB (bl v.unit)&&(qfits v.typ (bl v.fill)&&(attrsB v.attrs&&decide (cellsB v.chunks<=4096))))))):=by
 unfold varB chunksB
 rfl
theorem yrt {b off n c k:Nat} {w:World} {B:Nat} {xs:List ByteArray} (h:VL kStr 1 w B (.slice (some ⟨b,off,none⟩) n c) xs) (hk:k<n):VL kStr 1 w B (.slice (some ⟨b,off,none⟩) k c) (xs.take k):=by
 have h2:=h.part (p:=0) (q:=k) (by omega) (by omega)
 obtain⟨A',n',c',e,h1,hc,_⟩:=h
 injection e with e1 e2 e3
 subst e2 e3
 rw[if_neg (by omega),Option.map_some,Addr.add_mid,Nat.sub_zero,Nat.sub_zero,Nat.zero_mul,Nat.add_zero,List.drop_zero] at h2
 exact h2
theorem yiz (x:VarD) (v1 v2 v3 v4:Value) (w:World) (ht:inI x.typ) (hf:okS x.fill) (hu:okS x.unit) (hd1:VL kStr 1 w w.heap.size v1 x.dims) (hd2:VL kInt 1 w w.heap.size v2 x.chunks) (hd3:VL kStage 3 w w.heap.size v3 x.stages) (hd4:VL kAttr 4 w w.heap.size v4 x.attrs) (hw:Wf w) :
  Calls Tryz.prog 40 #[.agg #[.string x.name,.int .i64 x.typ,v1,v2,.string x.fill,.string x.unit,v3,v4]] w fun e w'=>e=.returned (.bool (varB x))/\Below w.heap.size w w':=by
 obtain⟨X,hX⟩:∃ X,varB x=X:=⟨_,rfl⟩
 rw[hX]
 rw[yth] at hX
 obtain⟨nm,K,ds,cs,Fi,Un,ss,ats⟩:=x
 dsimp only at *
 obtain⟨A1,c1,rfl,h11,h12⟩:=hd1.val
 obtain⟨A2,c2,rfl,h21,h22⟩:=hd2.val
 obtain⟨A3,c3,rfl,h31,h32⟩:=hd3.val
 obtain⟨m,hm⟩:∃ m,ds.length=m:=⟨_,rfl⟩
 obtain⟨n,hn⟩:∃ n,cs.length=n:=⟨_,rfl⟩
 obtain⟨q,hq⟩:∃ q,ss.length=q:=⟨_,rfl⟩
 rw[hm] at hd1 h11 h12 hX
 rw[hn] at hd2 h21 h22 hX
 rw[hq] at hd3 h31 h32 hX
 rw[hm,hn,hq]
 have mb:(m:Int)<=9223372036854775807:=by omega
 have nb:(n:Int)<=9223372036854775807:=by omega
 have qb:(q:Int)<=9223372036854775807:=by omega
 have mc:(m:Int)<=(c1:Int):=by omega
 have HD1:=zh hd1
 have HD2:=zh hd2
 have HD3:=zh hd3
 have HD4:=zh hd4
 have HW:=zh hw
 have HM:=zh hm
 have HN:=zh hn
 have HQ:=zh hq
 have HF:=zh (And.intro hf hu)
 clear hd1 hd2 hd3 hd4 hw hm hn hq h11 h12 h21 h22 h31 h32 hf hu
 by_cases g1:(1:Int)<=K
 ·by_cases g2:K<=5
  ·by_cases g3:(m:Int)<=4
   ·by_cases g4:n=m
    ·have g4m:=g4.symm
     subst g4m
     by_cases g5:(q:Int)<=4
     ·rw[decide_eq_true ⟨by omega,by omega,by omega,rfl,by omega⟩,Bool.true_and] at hX
      have HX:=zh hX
      clear hX
      go_enter Tryz.func40,Tryz.ntmps40
      go_wp2
      have hx1:=yaa (Below.refl w.heap.size w) (.cells #[.string nm,.int .i64 K,.slice A1 m c1,.slice A2 m c2,.string Fi,.string Un,.slice A3 q c3,v4] 41)
      have hxc:∀ j v,(#[.string nm,.int .i64 K,.slice A1 m c1,.slice A2 m c2,.string Fi,.string Un,.slice A3 q c3,v4])[j]?=some v->(w.alloc (.cells #[.string nm,.int .i64 K,.slice A1 m c1,.slice A2 m c2,.string Fi,.string Un,.slice A3 q c3,v4] 41)).cell? ⟨w.heap.size,j,none⟩=some v:=fun j v h=>((Bk.new w #[.string nm,.int .i64 K,.slice A1 m c1,.slice A2 m c2,.string Fi,.string Un,.slice A3 q c3,v4] 41).cell j).trans h
      have hx3:w.heap.size<(w.alloc (.cells #[.string nm,.int .i64 K,.slice A1 m c1,.slice A2 m c2,.string Fi,.string Un,.slice A3 q c3,v4] 41)).heap.size:=by simp
      generalize hwx:(w.alloc (.cells #[.string nm,.int .i64 K,.slice A1 m c1,.slice A2 m c2,.string Fi,.string Un,.slice A3 q c3,v4] 41))=wx at *
      have HB:=zh (show ∀ w2,Below wx.heap.size wx w2->Below w.heap.size w w2 from fun w2 hb=>hx1.trans (hb.mono hx1.size))
      have HC:=zh (show ∀ w2,Below wx.heap.size wx w2->∀ j v,(#[.string nm,.int .i64 K,.slice A1 m c1,.slice A2 m c2,.string Fi,.string Un,.slice A3 q c3,v4])[j]?=some v->w2.cell? ⟨w.heap.size,j,none⟩=some v from fun w2 hb j v h=>(hb.cell (p:=⟨w.heap.size,j,none⟩) hx3).trans (hxc j v h))
      have HZ:=zh hx3
      clear hx1 hxc hx3 hwx
      go_loopw [41] (fun i wr=>∃ k:Nat,k<=m/\i=.int .i64 (k:Int)/\Hid ((cs.take k).all okC=true/\((ds.map bl).take k).Nodup)/\Hid (Below wx.heap.size wx wr)) (fun i _=>(m - intOf i).toNat)
      case atStart=>exact⟨0,Nat.zero_le _,rfl,zh ⟨rfl,List.Pairwise.nil⟩,zh (Below.refl _ _)⟩
      case round=>
       obtain⟨k,hk,rfl,hA,hB⟩:=hrel
       have k2:=HC.out wr hB.out 2 _ rfl
       by_cases hkm:k=m
       ·have hX:(ss.all stageB&&(unitB (bl Un)&&(qfits K (bl Fi)&&(attrsB ats&&decide (cellsB cs<=4096)))))=X:=by
         have h:=hA.out
         rw[hkm,List.take_of_length_le (by have:=HN.out;omega),List.take_of_length_le (by rw[List.length_map];have:=HM.out;omega)] at h
         have h2:=HX.out
         rw[h.1,decide_eq_true h.2] at h2
         exact h2
        subst hkm
        have HX:=zh hX
        clear hX hA k2
        have k6:=HC.out wr hB.out 6 _ rfl
        have hB0:=hB
        clear hB
        go_wp2
        clear k6
        go_loopw [68] (fun i w2=>∃ k:Nat,k<=q/\i=.int .i64 (k:Int)/\Hid ((ss.take k).all stageB=true)/\Hid (Below wx.heap.size wx w2)) (fun i _=>(q - intOf i).toNat)
        case atStart=>exact⟨0,Nat.zero_le _,rfl,zh rfl,hB0⟩
        case round=>
         clear hB0
         obtain⟨j,hj,rfl,hA,hB2⟩:=hrel
         by_cases hjq:j=q
         ·have hX:(unitB (bl Un)&&(qfits K (bl Fi)&&(attrsB ats&&decide (cellsB cs<=4096))))=X:=by
           have h:=hA.out
           rw[hjq,List.take_of_length_le (by have:=HQ.out;omega)] at h
           have h2:=HX.out
           rw[h,Bool.true_and] at h2
           exact h2
          subst hjq
          clear HX
          have hes:Un.toList.isEmpty=decide (bl Un=[]):=emptyS Un
          have hBr:=hB2.out
          have k1:=HC.out wr hBr 1 _ rfl
          have k4:=HC.out wr hBr 4 _ rfl
          have k5:=HC.out wr hBr 5 _ rfl
          have FI:=fun w2 (hb:Below wx.heap.size wx w2)=>yp3 K Fi HF.out.1 w2 (HW.out.up (HB.out w2 hb))
          have AT:=fun w2 (hb:Below wx.heap.size wx w2)=>yej v4 ats w2 ((VL.keeps yaq HD4.out (HB.out w2 hb)).lifts yap (HB.out w2 hb).size) (HW.out.up (HB.out w2 hb))
          have CE:=fun w2 (hb:Below wx.heap.size wx w2)=>yct (VL.keeps ybr HD2.out (HB.out w2 hb))
          by_cases hUn:bl Un=[]
          ·rw[decide_eq_true hUn] at hes
           have hX:(qfits K (bl Fi)&&(attrsB ats&&decide (cellsB cs<=4096)))=X:=by
            have h:=hX
            unfold unitB at h
            rw[decide_eq_true hUn,Bool.true_or,Bool.true_and] at h
            exact h
           clear HD1 HD2 HD3 HD4 HW HM HN HQ HF hA hUn
           cases hfi:qfits K (bl Fi)
           ·rw[hfi,Bool.false_and] at hX
            subst hX
            simp only[hfi] at FI
            go_wp2_with (go_at_call 87;(with_reducible refine(FI _ (by (repeat (first|exact zJ _ _|assumption|refine yab ?_ _|refine zL ?_|refine yac ?_ (by assumption)|refine yaa ?_ _)))).mono ?_);rintro e w4 ⟨rfl,hb⟩;have b4:Below wx.heap.size wx w4:=(by (repeat (first|exact zJ _ _|assumption|refine yab ?_ _|refine zL ?_|refine yac ?_ (by assumption)|refine yaa ?_ _)));have k7:=HC.out w4 b4 7 _ rfl;clear hb)
            go_ret
            exact⟨rfl,HB.out _ b4⟩
           ·rw[hfi,Bool.true_and] at hX
            simp only[hfi] at FI
            cases hat:attrsB ats
            ·rw[hat,Bool.false_and] at hX
             subst hX
             simp only[hat] at AT
             go_wp2_with (first|(go_at_call 45;(with_reducible refine(AT _ b4).mono ?_);rintro e w5 ⟨rfl,hb⟩;have b5:Below wx.heap.size wx w5:=yac b4 hb;have k3:=HC.out w5 b5 3 _ rfl;clear hb)|(go_at_call 87;(with_reducible refine(FI _ (by (repeat (first|exact zJ _ _|assumption|refine yab ?_ _|refine zL ?_|refine yac ?_ (by assumption)|refine yaa ?_ _)))).mono ?_);rintro e w4 ⟨rfl,hb⟩;have b4:Below wx.heap.size wx w4:=(by (repeat (first|exact zJ _ _|assumption|refine yab ?_ _|refine zL ?_|refine yac ?_ (by assumption)|refine yaa ?_ _)));have k7:=HC.out w4 b4 7 _ rfl;clear hb))
             go_ret
             exact⟨rfl,HB.out _ b5⟩
            ·rw[hat,Bool.true_and] at hX
             subst hX
             simp only[hat] at AT
             go_wp2_with (first|(go_at_call 16;(with_reducible refine(CE _ b5).mono ?_);rintro e w6 ⟨rfl,rfl⟩)|(go_at_call 45;(with_reducible refine(AT _ b4).mono ?_);rintro e w5 ⟨rfl,hb⟩;have b5:Below wx.heap.size wx w5:=yac b4 hb;have k3:=HC.out w5 b5 3 _ rfl;clear hb)|(go_at_call 87;(with_reducible refine(FI _ (by (repeat (first|exact zJ _ _|assumption|refine yab ?_ _|refine zL ?_|refine yac ?_ (by assumption)|refine yaa ?_ _)))).mono ?_);rintro e w4 ⟨rfl,hb⟩;have b4:Below wx.heap.size wx w4:=(by (repeat (first|exact zJ _ _|assumption|refine yab ?_ _|refine zL ?_|refine yac ?_ (by assumption)|refine yaa ?_ _)));have k7:=HC.out w4 b4 7 _ rfl;clear hb))
             go_ret
             exact⟨rfl,HB.out _ b5⟩
          ·rw[decide_eq_false hUn] at hes
           obtain⟨⟨⟨F',O',p⟩,e'⟩,hpu⟩:∃ r,punit (bl Un)=r:=⟨_,rfl⟩
           have PU:=fun w2 (hb:Below wx.heap.size wx w2)=>(show Calls Tryz.prog 86 #[.string Un] w2 fun e w3=>e=.returned (.tuple #[.agg #[.string ⟨F'.toArray⟩,.string ⟨O'.toArray⟩,.int .i64 p.a,.int .i64 p.b,.int .i64 p.c,.int .i64 p.d,.int .i64 p.e,.int .i64 p.f,.int .i64 p.g],.int .i64 e'])/\Below w2.heap.size w2 w3 by
            have h:=yie Un HF.out.2 w2 (HW.out.up (HB.out w2 hb))
            rw[hpu] at h
            exact h)
           have hX:(decide (e'=0)&&(qfits K (bl Fi)&&(attrsB ats&&decide (cellsB cs<=4096))))=X:=by
            have h:=hX
            unfold unitB at h
            rw[decide_eq_false hUn,Bool.false_or,hpu] at h
            exact h
           clear HD1 HD2 HD3 HD4 HW HM HN HQ HF hA hUn hpu
           by_cases he:e'=0
           ·rw[decide_eq_true he,Bool.true_and] at hX
            subst he
            cases hfi:qfits K (bl Fi)
            ·rw[hfi,Bool.false_and] at hX
             subst hX
             simp only[hfi] at FI
             go_wp2_with (first|(go_at_call 87;(with_reducible refine(FI _ (by (repeat (first|exact zJ _ _|assumption|refine yab ?_ _|refine zL ?_|refine yac ?_ (by assumption)|refine yaa ?_ _)))).mono ?_);rintro e w4 ⟨rfl,hb⟩;have b4:Below wx.heap.size wx w4:=(by (repeat (first|exact zJ _ _|assumption|refine yab ?_ _|refine zL ?_|refine yac ?_ (by assumption)|refine yaa ?_ _)));have k7:=HC.out w4 b4 7 _ rfl;clear hb)|(go_at_call 86;(with_reducible refine(PU _ hBr).mono ?_);rintro e w3 ⟨rfl,hb⟩;have b3:Below wx.heap.size wx w3:=yac hBr hb;have k1:=HC.out w3 b3 1 _ rfl;have k4:=HC.out w3 b3 4 _ rfl;have z3:w.heap.size<w3.heap.size:=Nat.lt_of_lt_of_le HZ.out b3.size;clear hb))
             go_ret
             exact⟨rfl,HB.out _ b4⟩
            ·rw[hfi,Bool.true_and] at hX
             simp only[hfi] at FI
             cases hat:attrsB ats
             ·rw[hat,Bool.false_and] at hX
              subst hX
              simp only[hat] at AT
              go_wp2_with (first|(go_at_call 45;(with_reducible refine(AT _ b4).mono ?_);rintro e w5 ⟨rfl,hb⟩;have b5:Below wx.heap.size wx w5:=yac b4 hb;have k3:=HC.out w5 b5 3 _ rfl;clear hb)|(go_at_call 87;(with_reducible refine(FI _ (by (repeat (first|exact zJ _ _|assumption|refine yab ?_ _|refine zL ?_|refine yac ?_ (by assumption)|refine yaa ?_ _)))).mono ?_);rintro e w4 ⟨rfl,hb⟩;have b4:Below wx.heap.size wx w4:=(by (repeat (first|exact zJ _ _|assumption|refine yab ?_ _|refine zL ?_|refine yac ?_ (by assumption)|refine yaa ?_ _)));have k7:=HC.out w4 b4 7 _ rfl;clear hb)|(go_at_call 86;(with_reducible refine(PU _ hBr).mono ?_);rintro e w3 ⟨rfl,hb⟩;have b3:Below wx.heap.size wx w3:=yac hBr hb;have k1:=HC.out w3 b3 1 _ rfl;have k4:=HC.out w3 b3 4 _ rfl;have z3:w.heap.size<w3.heap.size:=Nat.lt_of_lt_of_le HZ.out b3.size;clear hb))
              go_ret
              exact⟨rfl,HB.out _ b5⟩
             ·rw[hat,Bool.true_and] at hX
              subst hX
              simp only[hat] at AT
              go_wp2_with (first|(go_at_call 16;(with_reducible refine(CE _ b5).mono ?_);rintro e w6 ⟨rfl,rfl⟩)|(go_at_call 45;(with_reducible refine(AT _ b4).mono ?_);rintro e w5 ⟨rfl,hb⟩;have b5:Below wx.heap.size wx w5:=yac b4 hb;have k3:=HC.out w5 b5 3 _ rfl;clear hb)|(go_at_call 87;(with_reducible refine(FI _ (by (repeat (first|exact zJ _ _|assumption|refine yab ?_ _|refine zL ?_|refine yac ?_ (by assumption)|refine yaa ?_ _)))).mono ?_);rintro e w4 ⟨rfl,hb⟩;have b4:Below wx.heap.size wx w4:=(by (repeat (first|exact zJ _ _|assumption|refine yab ?_ _|refine zL ?_|refine yac ?_ (by assumption)|refine yaa ?_ _)));have k7:=HC.out w4 b4 7 _ rfl;clear hb)|(go_at_call 86;(with_reducible refine(PU _ hBr).mono ?_);rintro e w3 ⟨rfl,hb⟩;have b3:Below wx.heap.size wx w3:=yac hBr hb;have k1:=HC.out w3 b3 1 _ rfl;have k4:=HC.out w3 b3 4 _ rfl;have z3:w.heap.size<w3.heap.size:=Nat.lt_of_lt_of_le HZ.out b3.size;clear hb))
              go_ret
              exact⟨rfl,HB.out _ b5⟩
           ·rw[decide_eq_false he,Bool.false_and] at hX
            subst hX
            clear FI AT CE
            go_wp2_with (go_at_call 86;(with_reducible refine(PU _ hBr).mono ?_);rintro e w3 ⟨rfl,hb⟩;have b3:Below wx.heap.size wx w3:=yac hBr hb;have k1:=HC.out w3 b3 1 _ rfl;have k4:=HC.out w3 b3 4 _ rfl;have z3:w.heap.size<w3.heap.size:=Nat.lt_of_lt_of_le HZ.out b3.size;clear hb)
            go_ret
            exact⟨rfl,HB.out _ (by (repeat (first|exact zJ _ _|assumption|refine yab ?_ _|refine zL ?_|refine yac ?_ (by assumption)|refine yaa ?_ _)))⟩
         ·have hlt:j<q:=by omega
          have hi:(j:Int)<(q:Int):=by omega
          obtain⟨s,hs⟩:∃ s,ss[j]?=some s:=⟨_,List.getElem?_eq_getElem (by have:=HQ.out;omega)⟩
          obtain⟨b0,off,vs,rfl,hb0,_,hr,hp⟩:=HD3.out.get hs
          obtain⟨rfl,hs1,hs2,hs3⟩:=hp
          have hBr:=hB2.out
          have hBw:=HB.out wr hBr
          have e0:wr.cell? ⟨b0,off+j*3,none⟩=some (.int .i64 s.kind):=(hBw.cell (p:=⟨b0,off+j*3,none⟩) hb0).trans (hr 0 _ rfl)
          have e1:wr.cell? ⟨b0,off+j*3+1,none⟩=some (.int .i64 s.n):=(hBw.cell (p:=⟨b0,off+j*3+1,none⟩) hb0).trans (hr 1 _ rfl)
          have e2:wr.cell? ⟨b0,off+j*3+2,none⟩=some (.string s.step):=(hBw.cell (p:=⟨b0,off+j*3+2,none⟩) hb0).trans (hr 2 _ rfl)
          have hsz:wx.heap.size<=wr.heap.size:=hBr.size
          have ST:=fun w2 (hb:Below wx.heap.size wx w2)=>yqb s w2 hs1 hs2 hs3 (HW.out.up (HB.out w2 hb))
          cases hst:stageB s
          ·have hX:X=false:=by
            have h2:=HX.out
            rw[show ss.all stageB=false by
             cases ha:ss.all stageB
             ·rfl
             ·rw[List.all_eq_true.1 ha s (List.mem_of_getElem? hs)] at hst;cases hst] at h2
            exact h2.symm
           subst hX
           simp only[hst] at ST
           clear HX HF HQ HN HM HW HD1 HD2 HD3 HD4 hr hBw hs hst hA
           go_wp2_with (go_at_call 85;(with_reducible refine(ST _ (by (repeat (first|exact zJ _ _|assumption|refine yab ?_ _|refine zL ?_|refine yac ?_ (by assumption)|refine yaa ?_ _)))).mono ?_);rintro e w3 ⟨rfl,hb⟩;have b3:Below wx.heap.size wx w3:=(by (repeat (first|exact zJ _ _|assumption|refine yab ?_ _|refine zL ?_|refine yac ?_ (by assumption)|refine yaa ?_ _)));clear hb)
           go_ret
           exact⟨rfl,HB.out _ b3⟩
          ·have HA2:=zh (show (ss.take (j+1)).all stageB=true by rw[ybx hs,hA.out,hst];rfl)
           simp only[hst] at ST
           clear HX HF HQ HN HM HW HD1 HD2 HD3 HD4 hr hBw hs hst hA
           go_wp2_with (go_at_call 85;(with_reducible refine(ST _ (by (repeat (first|exact zJ _ _|assumption|refine yab ?_ _|refine zL ?_|refine yac ?_ (by assumption)|refine yaa ?_ _)))).mono ?_);rintro e w3 ⟨rfl,hb⟩;have b3:Hid (Below wx.heap.size wx w3):=zh (by (repeat (first|exact zJ _ _|assumption|refine yab ?_ _|refine zL ?_|refine yac ?_ (by assumption)|refine yaa ?_ _)));clear hb)
           go_roundw
           case rel=>exact⟨j+1,by omega,by go_num,HA2,b3⟩
           case measure=>simp only[intOf];omega
       ·have hlt:k<m:=by omega
        have hi:(k:Int)<(m:Int):=by omega
        obtain⟨c,hc⟩:∃ c,cs[k]?=some c:=⟨_,List.getElem?_eq_getElem (by have:=HN.out;omega)⟩
        obtain⟨d,hd⟩:∃ d,ds[k]?=some d:=⟨_,List.getElem?_eq_getElem (by have:=HM.out;omega)⟩
        obtain⟨b0,off,vs,rfl,hb0,_,hr,hp⟩:=HD1.out.get hd
        obtain⟨rfl,_⟩:=hp
        have hd2:(ds.map bl)[k]?=some (bl d):=by rw[List.getElem?_map,hd];rfl
        have hmt:(ds.take k).map bl=(ds.map bl).take k:=List.map_take
        obtain⟨b1,off1,vs,rfl,hb1,_,hr1,hp⟩:=HD2.out.get hc
        obtain⟨rfl,_⟩:=hp
        have hBw:=HB.out wr hB.out
        have e0:wr.cell? ⟨b0,off+k,none⟩=some (.string d):=by
         have:=hr 0 _ rfl
         rw[Nat.mul_one,Nat.add_zero] at this
         exact(hBw.cell (p:=⟨b0,off+k,none⟩) hb0).trans this
        have e1:wr.cell? ⟨b1,off1+k,none⟩=some (.int .i64 c):=by
         have:=hr1 0 _ rfl
         rw[Nat.mul_one,Nat.add_zero] at this
         exact(hBw.cell (p:=⟨b1,off1+k,none⟩) hb1).trans this
        have z1:b0<wr.heap.size:=Nat.lt_of_lt_of_le hb0 hBw.size
        have z2:w.heap.size<wr.heap.size:=Nat.lt_of_lt_of_le HZ.out hB.out.size
        have CO:=fun w2 (hb:Below wr.heap.size wr w2)=>yd1 d ((VL.keeps yav (yrt HD1.out hlt) (hBw.trans (hb.mono hBw.size))))
        have HXc:=zh (show okC c=false->X=false from fun h=>by
         have h2:=HX.out
         rw[show cs.all okC=false by
          cases ha:cs.all okC
          ·rfl
          ·rw[List.all_eq_true.1 ha c (List.mem_of_getElem? hc)] at h;cases h] at h2
         exact h2.symm)
        have HXd:=zh (show bl d ∈ (ds.map bl).take k->X=false from fun h=>by
         have h2:=HX.out
         rw[decide_eq_false (yrg hd2 h),Bool.and_false] at h2
         exact h2.symm)
        have HG:=zh (show okC c=true->bl d ∉ (ds.map bl).take k->(cs.take (k+1)).all okC=true/\((ds.map bl).take (k+1)).Nodup from fun h1 h2=>⟨by rw[ybx hc,hA.out.1,h1];rfl,yry hA.out.2 hd2 h2⟩)
        simp only[hmt] at CO
        clear hr hr1 hBw hA HX hc hd hd2 hmt HF HQ HN HM HW HD1 HD2 HD3 HD4 hkm
        by_cases g6:1<=c
        ·by_cases g7:c<=1024
         ·have hok:okC c=true:=decide_eq_true ⟨g6,g7⟩
          have g6n:¬c<1:=by omega
          have g7n:¬1024<c:=by omega
          by_cases hmem:bl d ∈ (ds.map bl).take k
          ·have hX:=HXd.out hmem
           subst hX
           simp only[decide_eq_true hmem] at CO
           clear hmem hok HXc HXd HG
           go_wp2_with fail
           refine wp_region_noPanic ?_
           refine wp_region_held_drew (S:=fun w'=>w'.cell? ⟨w.heap.size,2,none⟩=some (.slice (some ⟨b0,off,none⟩) m c1)/\w'.cell? ⟨b0,off+k,none⟩=some (.string d)/\Below wr.heap.size wr w') (by kernel_rfl) ⟨k2,e0,by (repeat (first|exact zJ _ _|assumption|refine yab ?_ _|refine zL ?_|refine yac ?_ (by assumption)|refine yaa ?_ _))⟩ (fun hHeld=>?_)
           refine tRun [(0,46,some (.int .i64 c))] hHeld (by kernel_rfl) ?_
           simp only[runA,Act.put,zB,zC,zD]
           refine tVal 1 47 (.bool false) hHeld (by kernel_rfl) (fun w' hSw=>?_) ?_
           ·simp only[zE,zF,zG,zH,zI];first|(go_simp;done)|(with_reducible rfl)|(go_simp;omega)
           simp only[Act.put,zB,zC,zD]
           refine tRun [(2,48,some (.bool false)),(3,49,some (.int .i64 c))] hHeld (by kernel_rfl) ?_
           simp only[runA,Act.put,zB,zC,zD]
           refine tVal 4 50 (.bool false) hHeld (by kernel_rfl) (fun w' hSw=>?_) ?_
           ·simp only[zE,zF,zG,zH,zI];first|(go_simp;done)|(with_reducible rfl)|(go_simp;omega)
           simp only[Act.put,zB,zC,zD]
           refine tRun [(5,51,some (.bool false)),(6,52,some (.bool false))] hHeld (by kernel_rfl) ?_
           simp only[runA,Act.put,zB,zC,zD]
           refine tVal 7 53 (.pointer (some ⟨w.heap.size,2,none⟩)) hHeld (by kernel_rfl) (fun w' hSw=>?_) ?_
           ·simp only[zE,zF,zG,zH,zI];first|(go_simp;done)|(with_reducible rfl)|(go_simp;omega)
           simp only[Act.put,zB,zC,zD]
           refine tVal 8 54 (.slice (some ⟨b0,off,none⟩) m c1) hHeld (by kernel_rfl) (fun w' hSw=>?_) ?_
           ·obtain⟨q1,q2,q3⟩:=hSw;simp only[zE,zF,zG,zH,zI];first|(go_simp;done)|(with_reducible rfl)|(go_simp;omega)
           simp only[Act.put,zB,zC,zD]
           refine tRun [(9,55,some (.int .i64 (k:Int)))] hHeld (by kernel_rfl) ?_
           simp only[runA,Act.put,zB,zC,zD]
           refine tVal 10 56 (.slice (some ⟨b0,off,none⟩) k c1) hHeld (by kernel_rfl) (fun w' hSw=>?_) ?_
           ·simp only[zE,zF,zG,zH,zI];first|(go_simp;done)|(with_reducible rfl)|(go_simp;omega)
           simp only[Act.put,zB,zC,zD]
           refine tVal 11 57 (.pointer (some ⟨w.heap.size,2,none⟩)) hHeld (by kernel_rfl) (fun w' hSw=>?_) ?_
           ·simp only[zE,zF,zG,zH,zI];first|(go_simp;done)|(with_reducible rfl)|(go_simp;omega)
           simp only[Act.put,zB,zC,zD]
           refine tVal 12 58 (.slice (some ⟨b0,off,none⟩) m c1) hHeld (by kernel_rfl) (fun w' hSw=>?_) ?_
           ·obtain⟨q1,q2,q3⟩:=hSw;simp only[zE,zF,zG,zH,zI];first|(go_simp;done)|(with_reducible rfl)|(go_simp;omega)
           simp only[Act.put,zB,zC,zD]
           refine tRun [(13,59,some (.int .i64 (k:Int)))] hHeld (by kernel_rfl) ?_
           simp only[runA,Act.put,zB,zC,zD]
           refine tVal 14 60 (.pointer (some ⟨b0,off+k,none⟩)) hHeld (by kernel_rfl) (fun w' hSw=>?_) ?_
           ·simp only[zE,zF,zG,zH,zI];first|(go_simp;done)|(with_reducible rfl)|(go_simp;omega)
           simp only[Act.put,zB,zC,zD]
           refine tVal 15 61 (.string d) hHeld (by kernel_rfl) (fun w' hSw=>?_) ?_
           ·obtain⟨q1,q2,q3⟩:=hSw;simp only[zE,zF,zG,zH,zI];first|(go_simp;done)|(with_reducible rfl)|(go_simp;omega)
           simp only[Act.put,zB,zC,zD]
           refine tEnter 16 62 81 #[.slice (some ⟨b0,off,none⟩) k c1,.string d] (by kernel_rfl) (by kernel_rfl) (by kernel_rfl) (CO _ hHeld.2.2) ?_
           rintro e w1 ⟨rfl,rfl⟩
           refine⟨_,rfl,hHeld,fun hHeld=>?_⟩
           simp only[Act.put,zB,zC,zD]
           refine tRun [(17,63,some (.bool true))] hHeld (by kernel_rfl) ?_
           simp only[runA,Act.put,zB,zC,zD]
           refine wpAnyH_done (by kernel_rfl) (tNoP ?_) _
           have b2:=zh hHeld.2.2
           clear hHeld
           go_wp2
           go_ret
           exact⟨rfl,HB.out _ (yac hB.out b2.out)⟩
          ·simp only[decide_eq_false hmem] at CO
           have HG:=zh (HG.out hok hmem)
           clear hmem hok HXc HXd
           go_wp2_with fail
           refine wp_region_noPanic ?_
           refine wp_region_held_drew (S:=fun w'=>w'.cell? ⟨w.heap.size,2,none⟩=some (.slice (some ⟨b0,off,none⟩) m c1)/\w'.cell? ⟨b0,off+k,none⟩=some (.string d)/\Below wr.heap.size wr w') (by kernel_rfl) ⟨k2,e0,by (repeat (first|exact zJ _ _|assumption|refine yab ?_ _|refine zL ?_|refine yac ?_ (by assumption)|refine yaa ?_ _))⟩ (fun hHeld=>?_)
           refine tRun [(0,46,some (.int .i64 c))] hHeld (by kernel_rfl) ?_
           simp only[runA,Act.put,zB,zC,zD]
           refine tVal 1 47 (.bool false) hHeld (by kernel_rfl) (fun w' hSw=>?_) ?_
           ·simp only[zE,zF,zG,zH,zI];first|(go_simp;done)|(with_reducible rfl)|(go_simp;omega)
           simp only[Act.put,zB,zC,zD]
           refine tRun [(2,48,some (.bool false)),(3,49,some (.int .i64 c))] hHeld (by kernel_rfl) ?_
           simp only[runA,Act.put,zB,zC,zD]
           refine tVal 4 50 (.bool false) hHeld (by kernel_rfl) (fun w' hSw=>?_) ?_
           ·simp only[zE,zF,zG,zH,zI];first|(go_simp;done)|(with_reducible rfl)|(go_simp;omega)
           simp only[Act.put,zB,zC,zD]
           refine tRun [(5,51,some (.bool false)),(6,52,some (.bool false))] hHeld (by kernel_rfl) ?_
           simp only[runA,Act.put,zB,zC,zD]
           refine tVal 7 53 (.pointer (some ⟨w.heap.size,2,none⟩)) hHeld (by kernel_rfl) (fun w' hSw=>?_) ?_
           ·simp only[zE,zF,zG,zH,zI];first|(go_simp;done)|(with_reducible rfl)|(go_simp;omega)
           simp only[Act.put,zB,zC,zD]
           refine tVal 8 54 (.slice (some ⟨b0,off,none⟩) m c1) hHeld (by kernel_rfl) (fun w' hSw=>?_) ?_
           ·obtain⟨q1,q2,q3⟩:=hSw;simp only[zE,zF,zG,zH,zI];first|(go_simp;done)|(with_reducible rfl)|(go_simp;omega)
           simp only[Act.put,zB,zC,zD]
           refine tRun [(9,55,some (.int .i64 (k:Int)))] hHeld (by kernel_rfl) ?_
           simp only[runA,Act.put,zB,zC,zD]
           refine tVal 10 56 (.slice (some ⟨b0,off,none⟩) k c1) hHeld (by kernel_rfl) (fun w' hSw=>?_) ?_
           ·simp only[zE,zF,zG,zH,zI];first|(go_simp;done)|(with_reducible rfl)|(go_simp;omega)
           simp only[Act.put,zB,zC,zD]
           refine tVal 11 57 (.pointer (some ⟨w.heap.size,2,none⟩)) hHeld (by kernel_rfl) (fun w' hSw=>?_) ?_
           ·simp only[zE,zF,zG,zH,zI];first|(go_simp;done)|(with_reducible rfl)|(go_simp;omega)
           simp only[Act.put,zB,zC,zD]
           refine tVal 12 58 (.slice (some ⟨b0,off,none⟩) m c1) hHeld (by kernel_rfl) (fun w' hSw=>?_) ?_
           ·obtain⟨q1,q2,q3⟩:=hSw;simp only[zE,zF,zG,zH,zI];first|(go_simp;done)|(with_reducible rfl)|(go_simp;omega)
           simp only[Act.put,zB,zC,zD]
           refine tRun [(13,59,some (.int .i64 (k:Int)))] hHeld (by kernel_rfl) ?_
           simp only[runA,Act.put,zB,zC,zD]
           refine tVal 14 60 (.pointer (some ⟨b0,off+k,none⟩)) hHeld (by kernel_rfl) (fun w' hSw=>?_) ?_
           ·simp only[zE,zF,zG,zH,zI];first|(go_simp;done)|(with_reducible rfl)|(go_simp;omega)
           simp only[Act.put,zB,zC,zD]
           refine tVal 15 61 (.string d) hHeld (by kernel_rfl) (fun w' hSw=>?_) ?_
           ·obtain⟨q1,q2,q3⟩:=hSw;simp only[zE,zF,zG,zH,zI];first|(go_simp;done)|(with_reducible rfl)|(go_simp;omega)
           simp only[Act.put,zB,zC,zD]
           refine tEnter 16 62 81 #[.slice (some ⟨b0,off,none⟩) k c1,.string d] (by kernel_rfl) (by kernel_rfl) (by kernel_rfl) (CO _ hHeld.2.2) ?_
           rintro e w1 ⟨rfl,rfl⟩
           refine⟨_,rfl,hHeld,fun hHeld=>?_⟩
           simp only[Act.put,zB,zC,zD]
           refine tRun [(17,63,some (.bool false))] hHeld (by kernel_rfl) ?_
           simp only[runA,Act.put,zB,zC,zD]
           refine wpAnyH_done (by kernel_rfl) (tNoP ?_) _
           have b2:=zh hHeld.2.2
           clear hHeld
           go_wp2
           go_roundw
           case rel=>exact⟨k+1,by omega,by go_num,HG,zh (yac hB.out b2.out)⟩
           case measure=>simp only[intOf];omega
         ·have hX:=HXc.out (decide_eq_false (fun h=>g7 h.2))
          subst hX
          have g6n:¬c<1:=by omega
          have g7n:1024<c:=by omega
          clear HXc HXd HG CO
          go_wp2_with fail
          refine wp_region_noPanic ?_
          refine wp_region_held_drew (S:=fun w'=>w'.cell? ⟨w.heap.size,2,none⟩=some (.slice (some ⟨b0,off,none⟩) m c1)/\w'.cell? ⟨b0,off+k,none⟩=some (.string d)/\Below wr.heap.size wr w') (by kernel_rfl) ⟨k2,e0,by (repeat (first|exact zJ _ _|assumption|refine yab ?_ _|refine zL ?_|refine yac ?_ (by assumption)|refine yaa ?_ _))⟩ (fun hHeld=>?_)
          refine tRun [(0,46,some (.int .i64 c))] hHeld (by kernel_rfl) ?_
          simp only[runA,Act.put,zB,zC,zD]
          refine tVal 1 47 (.bool false) hHeld (by kernel_rfl) (fun w' hSw=>?_) ?_
          ·simp only[zE,zF,zG,zH,zI];first|(go_simp;done)|(with_reducible rfl)|(go_simp;omega)
          simp only[Act.put,zB,zC,zD]
          refine tRun [(2,48,some (.bool false)),(3,49,some (.int .i64 c))] hHeld (by kernel_rfl) ?_
          simp only[runA,Act.put,zB,zC,zD]
          refine tVal 4 50 (.bool true) hHeld (by kernel_rfl) (fun w' hSw=>?_) ?_
          ·simp only[zE,zF,zG,zH,zI];first|(go_simp;done)|(with_reducible rfl)|(go_simp;omega)
          simp only[Act.put,zB,zC,zD]
          refine tRun ((5,51,some (.bool true))::(6,52,some (.bool true))::(noR 7 53 10 [(17,63,some (.bool true))])) hHeld (by kernel_rfl) ?_
          simp only[runA,noR,Act.put,zB,zC,zD]
          refine wpAnyH_done (by kernel_rfl) (tNoP ?_) _
          have b2:=zh hHeld.2.2
          clear hHeld
          go_wp2
          go_ret
          exact⟨rfl,HB.out _ (yac hB.out b2.out)⟩
        ·have hX:=HXc.out (decide_eq_false (fun h=>g6 h.1))
         subst hX
         have g6n:c<1:=by omega
         clear HXc HXd HG CO
         go_wp2_with fail
         refine wp_region_noPanic ?_
         refine wp_region_held_drew (S:=fun w'=>w'.cell? ⟨w.heap.size,2,none⟩=some (.slice (some ⟨b0,off,none⟩) m c1)/\w'.cell? ⟨b0,off+k,none⟩=some (.string d)/\Below wr.heap.size wr w') (by kernel_rfl) ⟨k2,e0,by (repeat (first|exact zJ _ _|assumption|refine yab ?_ _|refine zL ?_|refine yac ?_ (by assumption)|refine yaa ?_ _))⟩ (fun hHeld=>?_)
         refine tRun [(0,46,some (.int .i64 c))] hHeld (by kernel_rfl) ?_
         simp only[runA,Act.put,zB,zC,zD]
         refine tVal 1 47 (.bool true) hHeld (by kernel_rfl) (fun w' hSw=>?_) ?_
         ·simp only[zE,zF,zG,zH,zI];first|(go_simp;done)|(with_reducible rfl)|(go_simp;omega)
         simp only[Act.put,zB,zC,zD]
         refine tRun ((2,48,some (.bool true))::(3,49,none)::(4,50,none)::(5,51,some (.bool true))::(6,52,some (.bool true))::(noR 7 53 10 [(17,63,some (.bool true))])) hHeld (by kernel_rfl) ?_
         simp only[runA,noR,Act.put,zB,zC,zD]
         refine wpAnyH_done (by kernel_rfl) (tNoP ?_) _
         have b2:=zh hHeld.2.2
         clear hHeld
         go_wp2
         go_ret
         exact⟨rfl,HB.out _ (yac hB.out b2.out)⟩
     ·rw[decide_eq_false (fun h=>g5 (by omega)),Bool.false_and] at hX
      subst hX
      clear HD1 HD2 HD3 HD4 HW HM HN HQ HF
      go_enter Tryz.func40,Tryz.ntmps40
      go_wp2
      go_ret
      exact⟨rfl,by (repeat (first|exact zJ _ _|assumption|refine yab ?_ _|refine zL ?_|refine yac ?_ (by assumption)|refine yaa ?_ _))⟩
    ·rw[decide_eq_false (fun h=>g4 h.2.2.2.1),Bool.false_and] at hX
     subst hX
     clear HD1 HD2 HD3 HD4 HW HM HN HQ HF
     go_enter Tryz.func40,Tryz.ntmps40
     go_wp2
     go_ret
     exact⟨rfl,by (repeat (first|exact zJ _ _|assumption|refine yab ?_ _|refine zL ?_|refine yac ?_ (by assumption)|refine yaa ?_ _))⟩
   ·rw[decide_eq_false (fun h=>g3 (by omega)),Bool.false_and] at hX
    subst hX
    clear HD1 HD2 HD3 HD4 HW HM HN HQ HF
    go_enter Tryz.func40,Tryz.ntmps40
    go_wp2
    go_ret
    exact⟨rfl,by (repeat (first|exact zJ _ _|assumption|refine yab ?_ _|refine zL ?_|refine yac ?_ (by assumption)|refine yaa ?_ _))⟩
  ·rw[decide_eq_false (fun h=>g2 (by omega)),Bool.false_and] at hX
   subst hX
   clear HD1 HD2 HD3 HD4 HW HM HN HQ HF
   go_enter Tryz.func40,Tryz.ntmps40
   go_wp2
   go_ret
   exact⟨rfl,by (repeat (first|exact zJ _ _|assumption|refine yab ?_ _|refine zL ?_|refine yac ?_ (by assumption)|refine yaa ?_ _))⟩
 ·rw[decide_eq_false (fun h=>g1 (by omega)),Bool.false_and] at hX
  subst hX
  clear HD1 HD2 HD3 HD4 HW HM HN HQ HF
  go_enter Tryz.func40,Tryz.ntmps40
  go_wp2
  go_ret
  exact⟨rfl,by (repeat (first|exact zJ _ _|assumption|refine yab ?_ _|refine zL ?_|refine yac ?_ (by assumption)|refine yaa ?_ _))⟩
def okD (d:DimD):Bool:=decide (0<=d.size/\d.size<=1024)
theorem ykb (g:GroupD):listsB g=(g.dims.all okD&&(g.vars.all varB&&(ascB 16 (g.dims.map fun x=>bl x.name)&&(ascB 24 (g.vars.map fun x=>bl x.name)&&attrsB g.attrs)))):=rfl
theorem ypf {α:Type} {p:α->Bool} {l:List α} {k:Nat} {x:α} (hk:l[k]?=some x) (h:p x=false):l.all p=false:=by
 cases ha:l.all p
 ·rfl
 ·rw[List.all_eq_true.1 ha x (List.mem_of_getElem? hk)] at h;cases h
theorem yps (g:GroupD) (p:ByteArray) (v1 v2 v3:Value) (w:World) (hd1:VL kDim 3 w w.heap.size v1 g.dims) (hd2:VL kVar 8 w w.heap.size v2 g.vars) (hd3:VL kAttr 4 w w.heap.size v3 g.attrs) (hw:Wf w) :
  Calls Tryz.prog 14 #[.agg #[.string p,v1,v2,v3]] w fun e w'=>e=.returned (.bool (listsB g))/\Below w.heap.size w w':=by
 obtain⟨X,hX⟩:∃ X,listsB g=X:=⟨_,rfl⟩
 rw[hX]
 rw[ykb] at hX
 obtain⟨pth,ds,vs,ats⟩:=g
 dsimp only at *
 obtain⟨A1,c1,rfl,h11,h12⟩:=hd1.val
 obtain⟨A2,c2,rfl,h21,h22⟩:=hd2.val
 obtain⟨A3,c3,rfl,h31,h32⟩:=hd3.val
 obtain⟨m,hm⟩:∃ m,ds.length=m:=⟨_,rfl⟩
 obtain⟨n,hn⟩:∃ n,vs.length=n:=⟨_,rfl⟩
 obtain⟨q,hq⟩:∃ q,ats.length=q:=⟨_,rfl⟩
 rw[hm] at hd1 h11 h12
 rw[hn] at hd2 h21 h22
 rw[hq] at hd3 h31 h32
 rw[hm,hn,hq]
 have mb:(m:Int)<=9223372036854775807:=by omega
 have nb:(n:Int)<=9223372036854775807:=by omega
 have HD1:=zh hd1
 have HD2:=zh hd2
 have HD3:=zh hd3
 have HW:=zh hw
 have HM:=zh hm
 have HN:=zh hn
 have HX:=zh hX
 clear hd1 hd2 hd3 hw hm hn hq h11 h12 h21 h22 h31 h32 hX
 go_enter Tryz.func14,Tryz.ntmps14
 go_wp2
 have hx1:=yaa (Below.refl w.heap.size w) (.cells #[.string p,.slice A1 m c1,.slice A2 n c2,.slice A3 q c3] 55)
 have hxc:∀ j v,(#[.string p,.slice A1 m c1,.slice A2 n c2,.slice A3 q c3])[j]?=some v->(w.alloc (.cells #[.string p,.slice A1 m c1,.slice A2 n c2,.slice A3 q c3] 55)).cell? ⟨w.heap.size,j,none⟩=some v:=fun j v h=>((Bk.new w #[.string p,.slice A1 m c1,.slice A2 n c2,.slice A3 q c3] 55).cell j).trans h
 have hx3:w.heap.size<(w.alloc (.cells #[.string p,.slice A1 m c1,.slice A2 n c2,.slice A3 q c3] 55)).heap.size:=by simp
 generalize hwx:(w.alloc (.cells #[.string p,.slice A1 m c1,.slice A2 n c2,.slice A3 q c3] 55))=wx at *
 have HB:=zh (show ∀ w2,Below wx.heap.size wx w2->Below w.heap.size w w2 from fun w2 hb=>hx1.trans (hb.mono hx1.size))
 have HC:=zh (show ∀ w2,Below wx.heap.size wx w2->∀ j v,(#[.string p,.slice A1 m c1,.slice A2 n c2,.slice A3 q c3])[j]?=some v->w2.cell? ⟨w.heap.size,j,none⟩=some v from fun w2 hb j v h=>(hb.cell (p:=⟨w.heap.size,j,none⟩) hx3).trans (hxc j v h))
 clear hx1 hxc hx3 hwx
 go_loopw [10] (fun i wr=>∃ k:Nat,k<=m/\i=.int .i64 (k:Int)/\Hid ((ds.take k).all okD=true)/\Hid (Below wx.heap.size wx wr)) (fun i _=>(m - intOf i).toNat)
 case atStart=>exact⟨0,Nat.zero_le _,rfl,zh rfl,zh (Below.refl _ _)⟩
 case round=>
  obtain⟨k,hk,rfl,hA,hB⟩:=hrel
  by_cases hkm:k=m
  ·have hX:(vs.all varB&&(ascB 16 (ds.map fun x=>bl x.name)&&(ascB 24 (vs.map fun x=>bl x.name)&&attrsB ats)))=X:=by
    have h:=hA.out
    rw[hkm,List.take_of_length_le (by have:=HM.out;omega)] at h
    have h2:=HX.out
    rw[h,Bool.true_and] at h2
    exact h2
   subst hkm
   have HX:=zh hX
   have k2:=HC.out wr hB.out 2 _ rfl
   have hB0:=hB
   clear hX hA hB
   go_wp2
   clear k2
   go_loopw [26] (fun i wr=>∃ k:Nat,k<=n/\i=.int .i64 (k:Int)/\Hid ((vs.take k).all varB=true)/\Hid (Below wx.heap.size wx wr)) (fun i _=>(n - intOf i).toNat)
   case atStart=>exact⟨0,Nat.zero_le _,rfl,zh rfl,hB0⟩
   case round=>
    clear hB0
    obtain⟨j,hj,rfl,hA,hB⟩:=hrel
    by_cases hjn:j=n
    ·have hX:(ascB 16 (ds.map fun x=>bl x.name)&&(ascB 24 (vs.map fun x=>bl x.name)&&attrsB ats))=X:=by
      have h:=hA.out
      rw[hjn,List.take_of_length_le (by have:=HN.out;omega)] at h
      have h2:=HX.out
      rw[h,Bool.true_and] at h2
      exact h2
     subst hjn
     have hBr:=hB.out
     have k1:=HC.out wr hBr 1 _ rfl
     have AD:=fun w2 (hb:Below wx.heap.size wx w2)=>(show Calls Tryz.prog 41 #[.slice A1 k c1,.int .i64 16,.func (.func 42) #[] #[]] w2 (fun e w'=>e=.returned (.bool (ascB 16 (ds.map fun x=>bl x.name)))/\Below w2.heap.size w2 w') from ynn A1 k c1 16 ds w2 ((VL.keeps ybh HD1.out (HB.out w2 hb)).lifts ya2 (HB.out w2 hb).size) HM.out (by decide))
     have AV:=fun w2 (hb:Below wx.heap.size wx w2)=>(show Calls Tryz.prog 43 #[.slice A2 j c2,.int .i64 24,.func (.func 44) #[] #[]] w2 (fun e w'=>e=.returned (.bool (ascB 24 (vs.map fun x=>bl x.name)))/\Below w2.heap.size w2 w') from ynq A2 j c2 24 vs w2 ((VL.keeps ybd HD2.out (HB.out w2 hb)).lifts yb2 (HB.out w2 hb).size) HN.out (by decide))
     have AT:=fun w2 (hb:Below wx.heap.size wx w2)=>yej (.slice A3 q c3) ats w2 ((VL.keeps yaq HD3.out (HB.out w2 hb)).lifts yap (HB.out w2 hb).size) (HW.out.up (HB.out w2 hb))
     clear HX HM HN HW HD1 HD2 HD3 hA
     generalize ascB 16 (ds.map fun x=>bl x.name)=a1 at *
     generalize ascB 24 (vs.map fun x=>bl x.name)=a2 at *
     generalize attrsB ats=a3 at *
     cases a1
     ·rw[Bool.false_and] at hX
      subst hX
      go_wp2_with (go_at_call 41;(with_reducible refine(AD _ hBr).mono ?_);rintro e w4 ⟨rfl,hb⟩;have b4:Below wx.heap.size wx w4:=yac hBr hb;have k2:=HC.out w4 b4 2 _ rfl;clear hb)
      go_ret
      exact⟨rfl,HB.out _ b4⟩
     ·rw[Bool.true_and] at hX
      cases a2
      ·rw[Bool.false_and] at hX
       subst hX
       go_wp2_with (first|(go_at_call 43;(with_reducible refine(AV _ b4).mono ?_);rintro e w5 ⟨rfl,hb⟩;have b5:Below wx.heap.size wx w5:=yac b4 hb;have k3:=HC.out w5 b5 3 _ rfl;clear hb)|(go_at_call 41;(with_reducible refine(AD _ hBr).mono ?_);rintro e w4 ⟨rfl,hb⟩;have b4:Below wx.heap.size wx w4:=yac hBr hb;have k2:=HC.out w4 b4 2 _ rfl;clear hb))
       go_ret
       exact⟨rfl,HB.out _ b5⟩
      ·rw[Bool.true_and] at hX
       subst hX
       go_wp2_with (first|(go_at_call 45;(with_reducible refine(AT _ b5).mono ?_);rintro e w6 ⟨rfl,hb⟩;have b6:Below wx.heap.size wx w6:=yac b5 hb;clear hb)|(go_at_call 43;(with_reducible refine(AV _ b4).mono ?_);rintro e w5 ⟨rfl,hb⟩;have b5:Below wx.heap.size wx w5:=yac b4 hb;have k3:=HC.out w5 b5 3 _ rfl;clear hb)|(go_at_call 41;(with_reducible refine(AD _ hBr).mono ?_);rintro e w4 ⟨rfl,hb⟩;have b4:Below wx.heap.size wx w4:=yac hBr hb;have k2:=HC.out w4 b4 2 _ rfl;clear hb))
       go_ret
       exact⟨rfl,HB.out _ b6⟩
    ·have hlt:j<n:=by omega
     have hi:(j:Int)<(n:Int):=by omega
     obtain⟨x,hx⟩:∃ x,vs[j]?=some x:=⟨_,List.getElem?_eq_getElem (by have:=HN.out;omega)⟩
     obtain⟨b0,off,cs,rfl,hb0,_,hr,hp⟩:=HD2.out.get hx
     obtain⟨v1,v2,v3,v4,rfl,_,g1,g2,g3,l1,l2,l3,l4⟩:=hp
     obtain⟨B1,u1,rfl,_,_⟩:=l1.val
     obtain⟨B2,u2,rfl,_,_⟩:=l2.val
     obtain⟨B3,u3,rfl,_,_⟩:=l3.val
     obtain⟨B4,u4,rfl,_,_⟩:=l4.val
     have hBw:=HB.out wr hB.out
     have e0:wr.cell? ⟨b0,off+j*8,none⟩=some (.string x.name):=(hBw.cell (p:=⟨b0,off+j*8,none⟩) hb0).trans (hr 0 _ rfl)
     have e1:wr.cell? ⟨b0,off+j*8+1,none⟩=some (.int .i64 x.typ):=(hBw.cell (p:=⟨b0,off+j*8+1,none⟩) hb0).trans (hr 1 _ rfl)
     have e2:wr.cell? ⟨b0,off+j*8+2,none⟩=some (.slice B1 x.dims.length u1):=(hBw.cell (p:=⟨b0,off+j*8+2,none⟩) hb0).trans (hr 2 _ rfl)
     have e3:wr.cell? ⟨b0,off+j*8+3,none⟩=some (.slice B2 x.chunks.length u2):=(hBw.cell (p:=⟨b0,off+j*8+3,none⟩) hb0).trans (hr 3 _ rfl)
     have e4:wr.cell? ⟨b0,off+j*8+4,none⟩=some (.string x.fill):=(hBw.cell (p:=⟨b0,off+j*8+4,none⟩) hb0).trans (hr 4 _ rfl)
     have e5:wr.cell? ⟨b0,off+j*8+5,none⟩=some (.string x.unit):=(hBw.cell (p:=⟨b0,off+j*8+5,none⟩) hb0).trans (hr 5 _ rfl)
     have e6:wr.cell? ⟨b0,off+j*8+6,none⟩=some (.slice B3 x.stages.length u3):=(hBw.cell (p:=⟨b0,off+j*8+6,none⟩) hb0).trans (hr 6 _ rfl)
     have e7:wr.cell? ⟨b0,off+j*8+7,none⟩=some (.slice B4 x.attrs.length u4):=(hBw.cell (p:=⟨b0,off+j*8+7,none⟩) hb0).trans (hr 7 _ rfl)
     have hsz:wx.heap.size<=wr.heap.size:=hB.out.size
     have hB1:=hB.out
     have VA:=fun w2 (hb:Below wx.heap.size wx w2)=>yiz x _ _ _ _ w2 g1 g2 g3 ((VL.keeps yav l1 (HB.out w2 hb)).lifts yao (HB.out w2 hb).size) ((VL.keeps ybr l2 (HB.out w2 hb)).lifts ybg (HB.out w2 hb).size) ((VL.keeps ybe l3 (HB.out w2 hb)).lifts ya5 (HB.out w2 hb).size) ((VL.keeps yaq l4 (HB.out w2 hb)).lifts yap (HB.out w2 hb).size) (HW.out.up (HB.out w2 hb))
     cases hv:varB x
     ·have hX:X=false:=by
       have h2:=HX.out
       rw[ypf hx hv] at h2
       exact h2.symm
      subst hX
      simp only[hv] at VA
      clear HX HM HN HW HD1 HD2 HD3 hr hx hA hBw hv g1 g2 g3 l1 l2 l3 l4
      go_wp2_with (go_at_call 40;(with_reducible refine(VA _ (by (repeat (first|exact zJ _ _|assumption|refine yab ?_ _|refine zL ?_|refine yac ?_ (by assumption)|refine yaa ?_ _)))).mono ?_);rintro e w3 ⟨rfl,hb⟩;have b3:Below wx.heap.size wx w3:=(by (repeat (first|exact zJ _ _|assumption|refine yab ?_ _|refine zL ?_|refine yac ?_ (by assumption)|refine yaa ?_ _)));clear hb)
      go_ret
      exact⟨rfl,HB.out _ b3⟩
     ·have HA2:=zh (show (vs.take (j+1)).all varB=true by rw[ybx hx,hA.out,hv];rfl)
      simp only[hv] at VA
      clear HX HM HN HW HD1 HD2 HD3 hr hx hA hBw hv g1 g2 g3 l1 l2 l3 l4
      go_wp2_with (go_at_call 40;(with_reducible refine(VA _ (by (repeat (first|exact zJ _ _|assumption|refine yab ?_ _|refine zL ?_|refine yac ?_ (by assumption)|refine yaa ?_ _)))).mono ?_);rintro e w3 ⟨rfl,hb⟩;have b3:Hid (Below wx.heap.size wx w3):=zh (by (repeat (first|exact zJ _ _|assumption|refine yab ?_ _|refine zL ?_|refine yac ?_ (by assumption)|refine yaa ?_ _)));clear hb)
      go_roundw
      case rel=>exact⟨j+1,by omega,by go_num,HA2,b3⟩
      case measure=>simp only[intOf];omega
  ·have hlt:k<m:=by omega
   have hi:(k:Int)<(m:Int):=by omega
   obtain⟨d,hd⟩:∃ d,ds[k]?=some d:=⟨_,List.getElem?_eq_getElem (by have:=HM.out;omega)⟩
   obtain⟨b0,off,cs,rfl,hb0,_,hr,hp⟩:=HD1.out.get hd
   obtain⟨rfl,_,_⟩:=hp
   have hBw:=HB.out wr hB.out
   have e0:wr.cell? ⟨b0,off+k*3,none⟩=some (.string d.name):=(hBw.cell (p:=⟨b0,off+k*3,none⟩) hb0).trans (hr 0 _ rfl)
   have e1:wr.cell? ⟨b0,off+k*3+1,none⟩=some (.int .i64 d.size):=(hBw.cell (p:=⟨b0,off+k*3+1,none⟩) hb0).trans (hr 1 _ rfl)
   have e2:wr.cell? ⟨b0,off+k*3+2,none⟩=some (.bool d.opn):=(hBw.cell (p:=⟨b0,off+k*3+2,none⟩) hb0).trans (hr 2 _ rfl)
   have hsz:wx.heap.size<=wr.heap.size:=hB.out.size
   have hB1:=hB.out
   have hXn:=zh (show okD d=false->X=false from fun h=>by
    have h2:=HX.out
    rw[ypf hd h] at h2
    exact h2.symm)
   have hA2:=zh (show okD d=true->(ds.take (k+1)).all okD=true from fun h=>by rw[ybx hd,hA.out,h];rfl)
   clear HX HM HN HW HD1 HD2 HD3 hr hd hA hBw
   by_cases g1:(0:Int)<=d.size
   ·by_cases g2:d.size<=1024
    ·have HA:=zh (hA2.out (decide_eq_true ⟨g1,g2⟩))
     clear hXn hA2
     go_wp2
     go_roundw
     case rel=>exact⟨k+1,by omega,by go_num,HA,zh (by (repeat (first|exact zJ _ _|assumption|refine yab ?_ _|refine zL ?_|refine yac ?_ (by assumption)|refine yaa ?_ _)))⟩
     case measure=>simp only[intOf];omega
    ·have hX:=hXn.out (decide_eq_false (fun h=>g2 h.2))
     subst hX
     clear hXn hA2
     go_wp2
     go_ret
     exact⟨rfl,HB.out _ (by (repeat (first|exact zJ _ _|assumption|refine yab ?_ _|refine zL ?_|refine yac ?_ (by assumption)|refine yaa ?_ _)))⟩
   ·have hX:=hXn.out (decide_eq_false (fun h=>g1 h.1))
    subst hX
    clear hXn hA2
    go_wp2
    go_ret
    exact⟨rfl,HB.out _ (by (repeat (first|exact zJ _ _|assumption|refine yab ?_ _|refine zL ?_|refine yac ?_ (by assumption)|refine yaa ?_ _)))⟩
theorem yhi {α:Type} {f:α×Nat->Bool} {l:List α}:l.zipIdx.all f=true ↔ ∀ i x,l[i]?=some x->f (x,i)=true:=by
 rw[List.all_eq_true]
 constructor
 ·exact fun h i x hx=>h (x,i) (List.mem_zipIdx_iff_getElem?.2 hx)
 ·exact fun h x hx=>h x.2 x.1 (List.mem_zipIdx_iff_getElem?.1 hx)
theorem ymc {α β:Type} {f:α->Option β}:∀ {l:List α} {ys:List β},l.mapM f=some ys->∀ y ∈ ys,∃ x ∈ l,f x=some y
 | [],ys,h,y,hy=>by simp at h;rw[h] at hy;cases hy
 | a::l,ys,h,y,hy=>by
  rw[List.mapM_cons] at h
  cases ha:f a with
  | none=>rw[ha] at h;cases h
  | some b=>
   cases hl:l.mapM f with
   | none=>rw[ha,hl] at h;cases h
   | some bs=>
    rw[ha,hl] at h
    injection h with h
    rw[<- h] at hy
    rcases List.mem_cons.1 hy with rfl|hy
    ·exact⟨a,List.mem_cons_self,ha⟩
    ·obtain⟨x,hx,hf⟩:=ymc hl y hy
     exact⟨x,List.mem_cons_of_mem _ hx,hf⟩
theorem VL.all {α:Type} {P:Rd α} {m:Nat} {w:World} {B:Nat} {v:Value} {xs:List α} (h:VL P m w B v xs):∀ x ∈ xs,∃ vs,P w B vs x:=by
 intro x hx
 obtain⟨k,hk⟩:=List.mem_iff_getElem?.1 hx
 obtain⟨A,c,rfl,_,_⟩:=h.val
 obtain⟨_,_,vs,_,_,_,_,hp⟩:=h.get hk
 exact⟨vs,hp⟩
theorem yma {w:World} {B:Nat} {v:Value} {xs:List GroupD} (h:VSchema w B v xs) {p:List UInt8} {x:VarD} {l:List Int} (hl:shapeB xs p x=some l):∀ z ∈ l,inI z:=by
 intro z hz
 obtain⟨n,_,hn⟩:=ymc hl z hz
 cases hr:resolveB xs (bl n) (p.length+1) p with
 | none=>rw[hr] at hn;cases hn
 | some gd=>
  obtain⟨g,d⟩:=gd
  rw[hr] at hn
  obtain⟨gx,y,hg,hy,_⟩:=ycy hr
  injection hn with hn
  rw[<- hn,ykd hg hy]
  obtain⟨_,hp⟩:=h.all gx (List.mem_of_getElem? hg)
  obtain⟨_,_,_,_,_,hd,_⟩:=hp
  obtain⟨_,hq⟩:=hd.all y (List.mem_of_getElem? hy)
  exact hq.2.2
theorem yn9 {v:VarD} (h:varB v=true):v.dims.length<=4:=by
 unfold varB at h
 rw[Bool.and_eq_true,decide_eq_true_iff] at h
 exact h.1.2.2.1
theorem ym7 {g:GroupD} (h:listsB g=true):∀ v ∈ g.vars,v.dims.length<=4:=by
 rw[ykb,Bool.and_eq_true,Bool.and_eq_true] at h
 exact fun v hv=>yn9 (List.all_eq_true.1 h.2.1 v hv)
theorem yja {s:List GroupD} {i:Nat} {g:GroupD} (h:placeB s i g=true):listsB g=true:=by
 unfold placeB at h
 rw[Bool.and_eq_true] at h
 exact h.2
theorem ykj (s:List GroupD) (g:GroupD):placeB s 0 g=listsB g:=by
 unfold placeB
 rfl
theorem yk3 {s:List GroupD} {j:Nat} {g:GroupD} (h:parentB (bl g.path)=none):placeB s (j+1) g=false:=by
 unfold placeB
 rw[h]
 rfl
theorem ykl {s:List GroupD} {j:Nat} {g y:GroupD} {up:List UInt8} (h:parentB (bl g.path)=some up) (hy:s[j]?=some y):placeB s (j+1) g=((Op.bytesLess (bl y.path) (bl g.path)&&(groupIx s up).isSome)&&listsB g):=by
 unfold placeB
 rw[h,Nat.add_sub_cancel,hy]
 rfl
theorem row1 {w:World} {h:Nat} {a:Value} (k:w.cell? ⟨h,0,none⟩=some a):w.rangeAt h 0 [a]:=by
 intro j v hj
 match j,hj with
 | 0,hj=>injection hj with hj;rw[<- hj];exact k
theorem yp7 {s:List GroupD} (h1:1<=s.length) (h2:s.length<=16) (h3:s.head?.map (bl ·.path)=some [47]):validB s=((s.zipIdx.all fun x=>placeB s x.2 x.1)&&s.all fun g=>g.vars.all (fitB s (bl g.path))):=by
 unfold validB
 rw[decide_eq_true ⟨h1,h2⟩,h3]
 rfl
theorem yhe {s:List GroupD} (h:¬(1<=s.length/\s.length<=16)):validB s=false:=by
 unfold validB
 rw[decide_eq_false h]
 rfl
theorem ykm {s:List GroupD} (h:s.head?.map (bl ·.path)≠some [47]):validB s=false:=by
 unfold validB
 rw[show (s.head?.map (bl ·.path)==some [47])=false by rw[beq_eq_false_iff_ne];exact h,Bool.and_false]
 rfl
theorem ycu (v:Value) (xs:List GroupD) (w:World) (hV:VSchema w w.heap.size v xs) (hps:∀ g ∈ xs,g.path.size<=4000000000) (hw:Ws w) :
  Calls Tryz.prog 6 #[.agg #[v]] w fun e w'=>e=.returned (.bool (validB xs))/\Below w.heap.size w w':=by
 obtain⟨X,hX⟩:∃ X,validB xs=X:=⟨_,rfl⟩
 rw[hX]
 obtain⟨A,c,rfl,hc1,hc2⟩:=hV.val
 obtain⟨n,hn⟩:∃ n,xs.length=n:=⟨_,rfl⟩
 rw[hn] at hV hc1 hc2 ⊢
 have nb:(n:Int)<=9223372036854775807:=by omega
 have HV:=zh hV
 have HW:=zh hw
 have HN:=zh hn
 have HP:=zh hps
 clear hw hc1 hc2 hps
 by_cases g1:n=0
 ·have g1n:((n:Int)==0)=true:=by rw[beq_iff_eq];omega
  have hX:=(yhe (s:=xs) (by omega)).symm.trans hX
  subst hX
  clear HV HW HN HP hV hn g1
  go_enter Tryz.func6,Tryz.ntmps6
  go_wp2
  go_ret
  exact⟨rfl,by (repeat (first|exact zJ _ _|assumption|refine yab ?_ _|refine zL ?_|refine yac ?_ (by assumption)|refine yaa ?_ _))⟩
 by_cases g2:16<n
 ·have g1n:((n:Int)==0)=false:=by rw[beq_eq_false_iff_ne];omega
  have g2n:(16:Int)<(n:Int):=by omega
  have hX:=(yhe (s:=xs) (by omega)).symm.trans hX
  subst hX
  clear HV HW HN HP hV hn g1 g2
  go_enter Tryz.func6,Tryz.ntmps6
  go_wp2
  go_ret
  exact⟨rfl,by (repeat (first|exact zJ _ _|assumption|refine yab ?_ _|refine zL ?_|refine yac ?_ (by assumption)|refine yaa ?_ _))⟩
 have g1n:((n:Int)==0)=false:=by rw[beq_eq_false_iff_ne];omega
 have g1p:(0:Int)<(n:Int):=by omega
 have g2n:¬(16:Int)<(n:Int):=by omega
 obtain⟨x0,hx0⟩:∃ x,xs[0]?=some x:=⟨_,List.getElem?_eq_getElem (by omega)⟩
 have hhd:xs.head?.map (bl ·.path)=some (bl x0.path):=by rw[List.head?_eq_getElem?,hx0];rfl
 obtain⟨b0,off,cs,rfl,hb0,_,hr,hp⟩:=hV.get hx0
 obtain⟨v1,v2,v3,rfl,_⟩:=hp
 have e0:w.cell? ⟨b0,off,none⟩=some (.string x0.path):=by
  have:=hr 0 _ rfl
  rw[Nat.zero_mul,Nat.add_zero] at this
  exact this
 have hE:(x0.path.toList==[47])=decide (bl x0.path=[47]):=eqS x0.path [47]
 by_cases g3:bl x0.path=[47]
 ·rw[decide_eq_true g3] at hE
  rw[yp7 (by omega) (by omega) (by rw[hhd,g3])] at hX
  have HX:=zh hX
  clear hX hhd g3 hn hV hr hx0 g1 g2
  go_enter Tryz.func6,Tryz.ntmps6
  go_wp2
  have hx1:=yaa (Below.refl w.heap.size w) (.cells #[.slice (some ⟨b0,off,none⟩) n c] 24)
  have hx2:(w.alloc (.cells #[.slice (some ⟨b0,off,none⟩) n c] 24)).cell? ⟨w.heap.size,0,none⟩=some (.slice (some ⟨b0,off,none⟩) n c):=by go_keep
  have hx3:w.heap.size<(w.alloc (.cells #[.slice (some ⟨b0,off,none⟩) n c] 24)).heap.size:=by simp
  generalize hwx:(w.alloc (.cells #[.slice (some ⟨b0,off,none⟩) n c] 24))=wx at *
  have HB:=zh (show ∀ w2,Below wx.heap.size wx w2->Below w.heap.size w w2 from fun w2 hb=>hx1.trans (hb.mono hx1.size))
  have HC:=zh (show ∀ w2,Below wx.heap.size wx w2->w2.cell? ⟨w.heap.size,0,none⟩=some (.slice (some ⟨b0,off,none⟩) n c) from fun w2 hb=>(hb.cell (p:=⟨w.heap.size,0,none⟩) hx3).trans hx2)
  have HZ:=zh (And.intro hx3 hb0)
  clear hx1 hx2 hx3 hwx e0 hE g1n g2n hb0
  go_loopw [34] (fun i wr=>∃ k:Nat,k<=n/\i=.int .i64 (k:Int)/\Hid (∀ i x,i<k->xs[i]?=some x->placeB xs i x=true)/\Hid (Below wx.heap.size wx wr)) (fun i _=>(n - intOf i).toNat)
  case atStart=>exact⟨0,Nat.zero_le _,rfl,zh (fun i x h=>by omega),zh (Below.refl _ _)⟩
  case round=>
   obtain⟨k,hk,rfl,hA,hB⟩:=hrel
   have k0:=HC.out wr hB.out
   by_cases hkn:k=n
   ·subst hkn
    have HPL:=zh (show ∀ i x,xs[i]?=some x->placeB xs i x=true from fun i x h=>hA.out i x (by have:=(List.getElem?_eq_some_iff.1 h).1;have:=HN.out;omega) h)
    have HX:=zh (show (xs.all fun g=>g.vars.all (fitB xs (bl g.path)))=X from by
     have h:=HX.out
     rw[yhi.2 (fun i x h=>HPL.out i x h),Bool.true_and] at h
     exact h)
    have hB0:=hB
    clear hA hB
    go_wp2
    clear k0
    go_loopw [78] (fun i wr=>∃ m:Nat,m<=k/\i=.int .i64 (m:Int)/\Hid (∀ i x,i<m->xs[i]?=some x->x.vars.all (fitB xs (bl x.path))=true)/\Hid (Below wx.heap.size wx wr)) (fun i _=>(k - intOf i).toNat)
    case atStart=>exact⟨0,Nat.zero_le _,rfl,zh (fun i x h=>by omega),hB0⟩
    case round=>
     clear hB0
     obtain⟨m,hm,rfl,hA,hB⟩:=hrel
     by_cases hmk:m=k
     ·have hX:X=true:=by
       have h:=HX.out
       rw[List.all_eq_true.2 (fun x hx=>by
        obtain⟨i,hi⟩:=List.mem_iff_getElem?.1 hx
        exact hA.out i x (by have:=(List.getElem?_eq_some_iff.1 hi).1;have:=HN.out;omega) hi)] at h
       exact h.symm
      subst hmk
      subst hX
      have b1:=zh (HB.out wr hB.out)
      clear HX HPL HV HW HN HP hA hB
      go_wp2
      go_ret
      exact⟨rfl,b1.out⟩
     ·have hlt:m<k:=by omega
      have hi:(m:Int)<(k:Int):=by omega
      obtain⟨x,hx⟩:∃ x,xs[m]?=some x:=⟨_,List.getElem?_eq_getElem (by have:=HN.out;omega)⟩
      obtain⟨b0',off',cs,e',_,_,hr,hp⟩:=HV.out.get hx
      injection e' with e'
      injection e' with e1' e2'
      subst e1' e2'
      obtain⟨v1,v2,v3,rfl,hpo,l1,l2,l3⟩:=hp
      obtain⟨B1,u1,rfl,_,_⟩:=l1.val
      obtain⟨B2,u2,rfl,hu1,hu2⟩:=l2.val
      obtain⟨B3,u3,rfl,_,_⟩:=l3.val
      have hBw:=HB.out wr hB.out
      have e0:wr.cell? ⟨b0,off+m*4,none⟩=some (.string x.path):=(hBw.cell (p:=⟨b0,off+m*4,none⟩) HZ.out.2).trans (hr 0 _ rfl)
      have e1:wr.cell? ⟨b0,off+m*4+1,none⟩=some (.slice B1 x.dims.length u1):=(hBw.cell (p:=⟨b0,off+m*4+1,none⟩) HZ.out.2).trans (hr 1 _ rfl)
      have e2:wr.cell? ⟨b0,off+m*4+2,none⟩=some (.slice B2 x.vars.length u2):=(hBw.cell (p:=⟨b0,off+m*4+2,none⟩) HZ.out.2).trans (hr 2 _ rfl)
      have e3:wr.cell? ⟨b0,off+m*4+3,none⟩=some (.slice B3 x.attrs.length u3):=(hBw.cell (p:=⟨b0,off+m*4+3,none⟩) HZ.out.2).trans (hr 3 _ rfl)
      have hls:∀ v ∈ x.vars,v.dims.length<=4:=ym7 (yja (HPL.out m x hx))
      have hxp:=HP.out x (List.mem_of_getElem? hx)
      have pb:(x.vars.length:Int)<=9223372036854775807:=by omega
      have HL2:=zh l2
      have HA2:=zh (show x.vars.all (fitB xs (bl x.path))=true->∀ i x,i<m+1->xs[i]?=some x->x.vars.all (fitB xs (bl x.path))=true from fun h i z hi hz=>by
       by_cases e:i=m
       ·subst e
        rw[hx] at hz
        injection hz with hz
        rw[<- hz];exact h
       ·exact hA.out i z (by omega) hz)
      have HXn:=zh (show x.vars.all (fitB xs (bl x.path))=false->X=false from fun h=>by
       have h2:=HX.out
       rw[show (xs.all fun g=>g.vars.all (fitB xs (bl g.path)))=false by
        cases ha:(xs.all fun g=>g.vars.all (fitB xs (bl g.path)))
        ·rfl
        ·rw[List.all_eq_true.1 ha x (List.mem_of_getElem? hx)] at h;cases h] at h2
       exact h2.symm)
      have HLS:=zh hls
      have HXP:=zh hxp
      have hwrx:=hB.out.size
      have hB1:=zh hB.out
      clear hr hx hA HX HPL HP hls hxp l1 l2 l3 hu1 hu2 hBw
      go_wp2
      have hy1:=yaa (Below.refl wr.heap.size wr) (.cells #[.string x.path,.slice B1 x.dims.length u1,.slice B2 x.vars.length u2,.slice B3 x.attrs.length u3] 55)
      have hy0:(wr.alloc (.cells #[.string x.path,.slice B1 x.dims.length u1,.slice B2 x.vars.length u2,.slice B3 x.attrs.length u3] 55)).cell? ⟨wr.heap.size,0,none⟩=some (.string x.path):=by go_keep
      have hy3:wr.heap.size<(wr.alloc (.cells #[.string x.path,.slice B1 x.dims.length u1,.slice B2 x.vars.length u2,.slice B3 x.attrs.length u3] 55)).heap.size:=by simp
      generalize hwy:wr.alloc (.cells #[.string x.path,.slice B1 x.dims.length u1,.slice B2 x.vars.length u2,.slice B3 x.attrs.length u3] 55)=wy at *
      clear hwy e0 e1 e2 e3
      have HY:=zh (show Below wx.heap.size wx wy from yac hB1.out hy1)
      clear hB1 hB hy1
      generalize wr.heap.size=g8 at *
      have HY3:=zh (And.intro hy0 (And.intro hy3 hwrx))
      clear hy0 hy3 hwrx
      go_loopw [85] (fun i wr=>∃ j:Nat,j<=x.vars.length/\i=.int .i64 (j:Int)/\Hid ((x.vars.take j).all (fitB xs (bl x.path))=true)/\Hid (Below wy.heap.size wy wr)) (fun i _=>(x.vars.length - intOf i).toNat)
      case atStart=>exact⟨0,Nat.zero_le _,rfl,zh rfl,zh (Below.refl _ _)⟩
      case round=>
       obtain⟨j,hj,rfl,hC,hD⟩:=hrel
       by_cases hjp:j=x.vars.length
       ·have HF:=zh (HA2.out (by
         have h:=hC.out
         rw[hjp,List.take_of_length_le (Nat.le_refl _)] at h
         exact h))
        have b1:=zh (yac HY.out hD.out)
        rw[hjp]
        clear HA2 HXn HLS HXP HL2 hC hD HV HW hjp hj
        go_wp2
        go_roundw
        case rel=>exact⟨m+1,by omega,by go_num,HF,b1⟩
        case measure=>simp only[intOf];omega
       ·have hjlt:j<x.vars.length:=by omega
        have hji:(j:Int)<(x.vars.length:Int):=by omega
        obtain⟨v,hv⟩:∃ v,x.vars[j]?=some v:=⟨_,List.getElem?_eq_getElem hjlt⟩
        obtain⟨b2,off2,cs,rfl,hb2,_,hr,hp⟩:=HL2.out.get hv
        obtain⟨w1,w2,w3,w4,rfl,_,f1,f2,f3,d1,d2,d3,d4⟩:=hp
        obtain⟨D1,t1,rfl,_,_⟩:=d1.val
        obtain⟨D2,t2,rfl,_,_⟩:=d2.val
        obtain⟨D3,t3,rfl,_,_⟩:=d3.val
        obtain⟨D4,t4,rfl,_,_⟩:=d4.val
        have hxw:Below wx.heap.size wx wr:=yac HY.out hD.out
        have hBw:=HB.out wr hxw
        have e0:wr.cell? ⟨b2,off2+j*8,none⟩=some (.string v.name):=(hBw.cell (p:=⟨b2,off2+j*8,none⟩) hb2).trans (hr 0 _ rfl)
        have e1:wr.cell? ⟨b2,off2+j*8+1,none⟩=some (.int .i64 v.typ):=(hBw.cell (p:=⟨b2,off2+j*8+1,none⟩) hb2).trans (hr 1 _ rfl)
        have e2:wr.cell? ⟨b2,off2+j*8+2,none⟩=some (.slice D1 v.dims.length t1):=(hBw.cell (p:=⟨b2,off2+j*8+2,none⟩) hb2).trans (hr 2 _ rfl)
        have e3:wr.cell? ⟨b2,off2+j*8+3,none⟩=some (.slice D2 v.chunks.length t2):=(hBw.cell (p:=⟨b2,off2+j*8+3,none⟩) hb2).trans (hr 3 _ rfl)
        have e4:wr.cell? ⟨b2,off2+j*8+4,none⟩=some (.string v.fill):=(hBw.cell (p:=⟨b2,off2+j*8+4,none⟩) hb2).trans (hr 4 _ rfl)
        have e5:wr.cell? ⟨b2,off2+j*8+5,none⟩=some (.string v.unit):=(hBw.cell (p:=⟨b2,off2+j*8+5,none⟩) hb2).trans (hr 5 _ rfl)
        have e6:wr.cell? ⟨b2,off2+j*8+6,none⟩=some (.slice D3 v.stages.length t3):=(hBw.cell (p:=⟨b2,off2+j*8+6,none⟩) hb2).trans (hr 6 _ rfl)
        have e7:wr.cell? ⟨b2,off2+j*8+7,none⟩=some (.slice D4 v.attrs.length t4):=(hBw.cell (p:=⟨b2,off2+j*8+7,none⟩) hb2).trans (hr 7 _ rfl)
        have k0:=HC.out wr hxw
        have y0:wr.cell? ⟨g8,0,none⟩=some (.string x.path):=(hD.out.cell (p:=⟨g8,0,none⟩) HY3.out.2.1).trans HY3.out.1
        have z0:w.heap.size<wr.heap.size:=Nat.lt_of_lt_of_le HZ.out.1 hxw.size
        have z1:g8<wr.heap.size:=Nat.lt_of_lt_of_le HY3.out.2.1 hD.out.size
        have z2:wy.heap.size<=wr.heap.size:=hD.out.size
        have z3:w.heap.size<=wr.heap.size:=Nat.le_of_lt z0
        have hvd:=HLS.out v (List.mem_of_getElem? hv)
        have SH:=fun w5 (hb:Below w.heap.size w w5)=>ygq (.slice (some ⟨b0,off,none⟩) k c) xs x.path v _ (.slice D2 v.chunks.length t2) (.slice D3 v.stages.length t3) (.slice D4 v.attrs.length t4) w5 ((VL.keeps yah HV.out hb).lifts yai hb.size) HXP.out ((VL.keeps yav d1 hb).lifts yao hb.size) (by omega) (HW.out.up hb)
        have HBr:=zh (show ∀ w5,Below wr.heap.size wr w5->Below w.heap.size w w5 from fun w5 hb=>yac hBw hb)
        have HBy:=zh (show ∀ w5,Below wr.heap.size wr w5->Below wy.heap.size wy w5 from fun w5 hb=>yac hD.out hb)
        have HNo:=zh (show fitB xs (bl x.path) v=false->X=false from fun h=>HXn.out (ypf hv h))
        have HGo:=zh (show fitB xs (bl x.path) v=true->(x.vars.take (j+1)).all (fitB xs (bl x.path))=true from fun h=>by rw[ybx hv,hC.out,h];rfl)
        have hsi:=fun l (h:shapeB xs (bl x.path) v=some l)=>yma HV.out h
        have hsl:∀ l,shapeB xs (bl x.path) v=some l->l.length=v.dims.length:=fun l h=>yf6 h
        clear hr hv d1 d2 d3 d4 f1 f2 f3 HXn HA2 HLS HXP HL2 hC hBw hxw HV HW
        cases hsh:shapeB xs (bl x.path) v with
        | none=>
         have hX:=HNo.out (by unfold fitB;rw[hsh])
         subst hX
         rw[hsh] at SH
         clear hsi hsl HGo HNo hsh hvd
         go_wp2_with (go_at_call 15;(with_reducible refine(SH _ (HBr.out _ (by (repeat (first|exact zJ _ _|assumption|refine yab ?_ _|refine zL ?_|refine yac ?_ (by assumption)|refine yaa ?_ _))))).mono ?_);rintro e w5 ⟨hb,rfl⟩;have b5:Below wr.heap.size wr w5:=(by (repeat (first|exact zJ _ _|assumption|refine yab ?_ _|refine zL ?_|refine yac ?_ (by assumption)|refine yaa ?_ _)));clear hb)
         go_ret
         exact⟨rfl,HBr.out _ b5⟩
        | some l=>
         have hin:=hsi l hsh
         have hll:l.length<=9223372036854775807:=by have:=hsl l hsh;omega
         have hfit:fitB xs (bl x.path) v=decide (cellsB l<=4096):=by unfold fitB;rw[hsh]
         rw[hsh] at SH
         clear hsi hsl hsh hvd
         by_cases hz:4096<cellsB l
         ·have hX:=HNo.out (hfit.trans (decide_eq_false (by omega)))
          subst hX
          clear HNo HGo hfit
          go_wp2_with (first|(go_at_call 16;(with_reducible refine(yct hvl.out).mono ?_);rintro e w6 ⟨rfl,rfl⟩)|(go_at_call 15;(with_reducible refine(SH _ (HBr.out _ (by (repeat (first|exact zJ _ _|assumption|refine yab ?_ _|refine zL ?_|refine yac ?_ (by assumption)|refine yaa ?_ _))))).mono ?_);rintro e w5 ⟨hb,vv,rfl,hrow⟩;have b5:Below wr.heap.size wr w5:=(by (repeat (first|exact zJ _ _|assumption|refine yab ?_ _|refine zL ?_|refine yac ?_ (by assumption)|refine yaa ?_ _)));have hvl:=zh (RowI.vl hrow hin hll);clear hb hrow))
          go_ret
          exact⟨rfl,HBr.out _ b5⟩
         ·have HG:=zh (HGo.out (hfit.trans (decide_eq_true (by omega))))
          clear HNo HGo hfit
          go_wp2_with (first|(go_at_call 16;(with_reducible refine(yct hvl.out).mono ?_);rintro e w6 ⟨rfl,rfl⟩)|(go_at_call 15;(with_reducible refine(SH _ (HBr.out _ (by (repeat (first|exact zJ _ _|assumption|refine yab ?_ _|refine zL ?_|refine yac ?_ (by assumption)|refine yaa ?_ _))))).mono ?_);rintro e w5 ⟨hb,vv,rfl,hrow⟩;have b5:Below wr.heap.size wr w5:=(by (repeat (first|exact zJ _ _|assumption|refine yab ?_ _|refine zL ?_|refine yac ?_ (by assumption)|refine yaa ?_ _)));have hvl:=zh (RowI.vl hrow hin hll);clear hb hrow))
          go_roundw
          case rel=>exact⟨j+1,by omega,by go_num,HG,zh (HBy.out _ b5)⟩
          case measure=>simp only[intOf];omega
   ·have hlt:k<n:=by omega
    have hi:(k:Int)<(n:Int):=by omega
    obtain⟨x,hx⟩:∃ x,xs[k]?=some x:=⟨_,List.getElem?_eq_getElem (by have:=HN.out;omega)⟩
    obtain⟨b0',off',cs,e',_,_,hr,hp⟩:=HV.out.get hx
    injection e' with e'
    injection e' with e1' e2'
    subst e1' e2'
    obtain⟨v1,v2,v3,rfl,hpo,l1,l2,l3⟩:=hp
    obtain⟨B1,u1,rfl,_,_⟩:=l1.val
    obtain⟨B2,u2,rfl,_,_⟩:=l2.val
    obtain⟨B3,u3,rfl,_,_⟩:=l3.val
    have hBw:=HB.out wr hB.out
    have e0:wr.cell? ⟨b0,off+k*4,none⟩=some (.string x.path):=(hBw.cell (p:=⟨b0,off+k*4,none⟩) HZ.out.2).trans (hr 0 _ rfl)
    have e1:wr.cell? ⟨b0,off+k*4+1,none⟩=some (.slice B1 x.dims.length u1):=(hBw.cell (p:=⟨b0,off+k*4+1,none⟩) HZ.out.2).trans (hr 1 _ rfl)
    have e2:wr.cell? ⟨b0,off+k*4+2,none⟩=some (.slice B2 x.vars.length u2):=(hBw.cell (p:=⟨b0,off+k*4+2,none⟩) HZ.out.2).trans (hr 2 _ rfl)
    have e3:wr.cell? ⟨b0,off+k*4+3,none⟩=some (.slice B3 x.attrs.length u3):=(hBw.cell (p:=⟨b0,off+k*4+3,none⟩) HZ.out.2).trans (hr 3 _ rfl)
    have z0:w.heap.size<wr.heap.size:=Nat.lt_of_lt_of_le HZ.out.1 hB.out.size
    have z1:b0<wr.heap.size:=Nat.lt_of_lt_of_le HZ.out.2 hBw.size
    have HBr:=zh (show ∀ w2,Below wr.heap.size wr w2->Below w.heap.size w w2 from fun w2 hb=>yac hBw hb)
    have HBx:=zh (show ∀ w2,Below wr.heap.size wr w2->Below wx.heap.size wx w2 from fun w2 hb=>yac hB.out hb)
    have PA:=fun w2 (hb:Below w.heap.size w w2)=>yfm x.path (HP.out x (List.mem_of_getElem? hx)) w2 (HW.out.up hb)
    have LI:=fun w2 (hb:Below w.heap.size w w2)=>yps x x.path _ _ _ w2 ((VL.keeps ybh l1 hb).lifts ya2 hb.size) ((VL.keeps ybd l2 hb).lifts yb2 hb.size) ((VL.keeps yaq l3 hb).lifts yap hb.size) (HW.out.up hb).1
    have HXn:=zh (show placeB xs k x=false->X=false from fun h=>by
     have h2:=HX.out
     rw[show (xs.zipIdx.all fun x=>placeB xs x.2 x.1)=false by
      cases ha:(xs.zipIdx.all fun x=>placeB xs x.2 x.1)
      ·rfl
      ·rw[yhi.1 ha k x hx] at h;cases h] at h2
     exact h2.symm)
    have HAn:=zh (show placeB xs k x=true->∀ i x,i<k+1->xs[i]?=some x->placeB xs i x=true from fun h i z hi hz=>by
     by_cases e:i=k
     ·subst e
      rw[hx] at hz
      injection hz with hz
      rw[<- hz];exact h
     ·exact hA.out i z (by omega) hz)
    clear hBw hr l1 l2 l3 HX hA
    rcases Nat.eq_zero_or_pos k with hk0|hk0
    ·have hj0:¬(0:Int)<(k:Int):=by omega
     have hpl:placeB xs k x=listsB x:=by rw[hk0,ykj]
     clear hk0 HP HN HW HV hx
     have HPA:=PA
     cases hpar:parentB (bl x.path) with
     | none=>
      rw[hpar] at PA
      cases hli:listsB x
      ·have hX:=HXn.out (hpl.trans hli)
       subst hX
       simp only[hli] at LI
       clear HXn HAn hpl HPA
       go_wp2_with (go_at_call 5;(with_reducible refine(PA _ (HBr.out _ (by (repeat (first|exact zJ _ _|assumption|refine yab ?_ _|refine zL ?_|refine yac ?_ (by assumption)|refine yaa ?_ _))))).mono ?_);rintro e w3 ⟨hb,rfl⟩;have r0:w3.cell? ⟨wr.heap.size,0,none⟩=some (.string x.path):=(hb.cell (p:=⟨wr.heap.size,0,none⟩) (by simp)).trans (by go_keep);have r1:w3.cell? ⟨wr.heap.size,1,none⟩=some (.slice B1 x.dims.length u1):=(hb.cell (p:=⟨wr.heap.size,1,none⟩) (by simp)).trans (by go_keep);have r2:w3.cell? ⟨wr.heap.size,2,none⟩=some (.slice B2 x.vars.length u2):=(hb.cell (p:=⟨wr.heap.size,2,none⟩) (by simp)).trans (by go_keep);have r3:w3.cell? ⟨wr.heap.size,3,none⟩=some (.slice B3 x.attrs.length u3):=(hb.cell (p:=⟨wr.heap.size,3,none⟩) (by simp)).trans (by go_keep);have b3:Below wr.heap.size wr w3:=(by (repeat (first|exact zJ _ _|assumption|refine yab ?_ _|refine zL ?_|refine yac ?_ (by assumption)|refine yaa ?_ _)));clear hb)
       have k0:w3.cell? ⟨w.heap.size,0,none⟩=some (.slice (some ⟨b0,off,none⟩) n c):=(b3.cell (p:=⟨w.heap.size,0,none⟩) z0).trans k0
       refine wp_region_noPanic ?_
       refine wp_region_held_drew (S:=fun w'=>w'.cell? ⟨w.heap.size,0,none⟩=some (.slice (some ⟨b0,off,none⟩) n c)/\w'.rangeAt wr.heap.size 0 [.string x.path,.slice B1 x.dims.length u1,.slice B2 x.vars.length u2,.slice B3 x.attrs.length u3]/\Below wr.heap.size wr w') (by kernel_rfl) ⟨k0,row4 ⟨r0,r1,r2,r3⟩,(by (repeat (first|exact zJ _ _|assumption|refine yab ?_ _|refine zL ?_|refine yac ?_ (by assumption)|refine yaa ?_ _)))⟩ (fun hHeld=>?_)
       refine tRun [(0,45,some (.int .i64 (k:Int)))] hHeld (by kernel_rfl) ?_
       simp only[runA,Act.put,zB,zC,zD]
       refine tVal 1 46 (.bool false) hHeld (by kernel_rfl) (fun w' hSw=>?_) ?_
       ·simp only[zE,zF,zG,zH,zI];first|(go_simp;done)|(with_reducible rfl)|(go_simp;omega)
       simp only[Act.put,zB,zC,zD]
       refine tRun ((2,47,some (.bool false))::(noR 3 48 20 [(23,68,some (.bool false)),(24,69,some (.bool false))])) hHeld (by kernel_rfl) ?_
       simp only[runA,noR,Act.put,zB,zC,zD]
       refine tLoad 25 70 55 (.tmp 4) wr.heap.size 0 [.string x.path,.slice B1 x.dims.length u1,.slice B2 x.vars.length u2,.slice B3 x.attrs.length u3] hHeld (by kernel_rfl) (by kernel_rfl) rfl (fun w' hw'=>hw'.2.1) Tryz.underlying55 rfl (by kernel_rfl) ?_
       simp only[Act.put,zB,zC,zD]
       refine tEnter 26 71 14 #[.agg #[.string x.path,.slice B1 x.dims.length u1,.slice B2 x.vars.length u2,.slice B3 x.attrs.length u3]] (by kernel_rfl) (by kernel_rfl) (by kernel_rfl) (LI _ (HBr.out _ hHeld.2.2)) ?_
       rintro e w5 ⟨rfl,hb⟩
       refine⟨_,rfl,⟨(hb.cell (p:=⟨w.heap.size,0,none⟩) (World.block_lt_of_cell? _ _ hHeld.1)).trans hHeld.1,yad hHeld.2.1 hb (World.block_lt_of_cell? _ _ (hHeld.2.1 0 _ rfl)),yac hHeld.2.2 hb⟩,fun hHeld=>?_⟩
       simp only[Act.put,zB,zC,zD]
       clear hb
       refine tRun [(27,72,some (.bool true)),(28,73,some (.bool true))] hHeld (by kernel_rfl) ?_
       simp only[runA,Act.put,zB,zC,zD]
       refine wpAnyH_done (by kernel_rfl) (tNoP ?_) _
       have b4:Below wr.heap.size wr _:=hHeld.2.2
       clear hHeld
       go_wp2
       go_ret
       exact⟨rfl,HBr.out _ (by (repeat (first|exact zJ _ _|assumption|refine yab ?_ _|refine zL ?_|refine yac ?_ (by assumption)|refine yaa ?_ _)))⟩
      ·have HA2:=zh (HAn.out (hpl.trans hli))
       simp only[hli] at LI
       clear HXn HAn hpl HPA
       go_wp2_with (go_at_call 5;(with_reducible refine(PA _ (HBr.out _ (by (repeat (first|exact zJ _ _|assumption|refine yab ?_ _|refine zL ?_|refine yac ?_ (by assumption)|refine yaa ?_ _))))).mono ?_);rintro e w3 ⟨hb,rfl⟩;have r0:w3.cell? ⟨wr.heap.size,0,none⟩=some (.string x.path):=(hb.cell (p:=⟨wr.heap.size,0,none⟩) (by simp)).trans (by go_keep);have r1:w3.cell? ⟨wr.heap.size,1,none⟩=some (.slice B1 x.dims.length u1):=(hb.cell (p:=⟨wr.heap.size,1,none⟩) (by simp)).trans (by go_keep);have r2:w3.cell? ⟨wr.heap.size,2,none⟩=some (.slice B2 x.vars.length u2):=(hb.cell (p:=⟨wr.heap.size,2,none⟩) (by simp)).trans (by go_keep);have r3:w3.cell? ⟨wr.heap.size,3,none⟩=some (.slice B3 x.attrs.length u3):=(hb.cell (p:=⟨wr.heap.size,3,none⟩) (by simp)).trans (by go_keep);have b3:Below wr.heap.size wr w3:=(by (repeat (first|exact zJ _ _|assumption|refine yab ?_ _|refine zL ?_|refine yac ?_ (by assumption)|refine yaa ?_ _)));clear hb)
       have k0:w3.cell? ⟨w.heap.size,0,none⟩=some (.slice (some ⟨b0,off,none⟩) n c):=(b3.cell (p:=⟨w.heap.size,0,none⟩) z0).trans k0
       refine wp_region_noPanic ?_
       refine wp_region_held_drew (S:=fun w'=>w'.cell? ⟨w.heap.size,0,none⟩=some (.slice (some ⟨b0,off,none⟩) n c)/\w'.rangeAt wr.heap.size 0 [.string x.path,.slice B1 x.dims.length u1,.slice B2 x.vars.length u2,.slice B3 x.attrs.length u3]/\Below wr.heap.size wr w') (by kernel_rfl) ⟨k0,row4 ⟨r0,r1,r2,r3⟩,(by (repeat (first|exact zJ _ _|assumption|refine yab ?_ _|refine zL ?_|refine yac ?_ (by assumption)|refine yaa ?_ _)))⟩ (fun hHeld=>?_)
       refine tRun [(0,45,some (.int .i64 (k:Int)))] hHeld (by kernel_rfl) ?_
       simp only[runA,Act.put,zB,zC,zD]
       refine tVal 1 46 (.bool false) hHeld (by kernel_rfl) (fun w' hSw=>?_) ?_
       ·simp only[zE,zF,zG,zH,zI];first|(go_simp;done)|(with_reducible rfl)|(go_simp;omega)
       simp only[Act.put,zB,zC,zD]
       refine tRun ((2,47,some (.bool false))::(noR 3 48 20 [(23,68,some (.bool false)),(24,69,some (.bool false))])) hHeld (by kernel_rfl) ?_
       simp only[runA,noR,Act.put,zB,zC,zD]
       refine tLoad 25 70 55 (.tmp 4) wr.heap.size 0 [.string x.path,.slice B1 x.dims.length u1,.slice B2 x.vars.length u2,.slice B3 x.attrs.length u3] hHeld (by kernel_rfl) (by kernel_rfl) rfl (fun w' hw'=>hw'.2.1) Tryz.underlying55 rfl (by kernel_rfl) ?_
       simp only[Act.put,zB,zC,zD]
       refine tEnter 26 71 14 #[.agg #[.string x.path,.slice B1 x.dims.length u1,.slice B2 x.vars.length u2,.slice B3 x.attrs.length u3]] (by kernel_rfl) (by kernel_rfl) (by kernel_rfl) (LI _ (HBr.out _ hHeld.2.2)) ?_
       rintro e w5 ⟨rfl,hb⟩
       refine⟨_,rfl,⟨(hb.cell (p:=⟨w.heap.size,0,none⟩) (World.block_lt_of_cell? _ _ hHeld.1)).trans hHeld.1,yad hHeld.2.1 hb (World.block_lt_of_cell? _ _ (hHeld.2.1 0 _ rfl)),yac hHeld.2.2 hb⟩,fun hHeld=>?_⟩
       simp only[Act.put,zB,zC,zD]
       clear hb
       refine tRun [(27,72,some (.bool false)),(28,73,some (.bool false))] hHeld (by kernel_rfl) ?_
       simp only[runA,Act.put,zB,zC,zD]
       refine wpAnyH_done (by kernel_rfl) (tNoP ?_) _
       have b4:Below wr.heap.size wr _:=hHeld.2.2
       clear hHeld
       go_wp2
       go_roundw
       case rel=>exact⟨k+1,by omega,by go_num,HA2,zh (HBx.out _ (by (repeat (first|exact zJ _ _|assumption|refine yab ?_ _|refine zL ?_|refine yac ?_ (by assumption)|refine yaa ?_ _))))⟩
       case measure=>simp only[intOf];omega
     | some up=>
      rw[hpar] at PA
      cases hli:listsB x
      ·have hX:=HXn.out (hpl.trans hli)
       subst hX
       simp only[hli] at LI
       clear HXn HAn hpl HPA
       go_wp2_with (go_at_call 5;(with_reducible refine(PA _ (HBr.out _ (by (repeat (first|exact zJ _ _|assumption|refine yab ?_ _|refine zL ?_|refine yac ?_ (by assumption)|refine yaa ?_ _))))).mono ?_);rintro e w3 ⟨hb,T,hT,rfl⟩;have r0:w3.cell? ⟨wr.heap.size,0,none⟩=some (.string x.path):=(hb.cell (p:=⟨wr.heap.size,0,none⟩) (by simp)).trans (by go_keep);have r1:w3.cell? ⟨wr.heap.size,1,none⟩=some (.slice B1 x.dims.length u1):=(hb.cell (p:=⟨wr.heap.size,1,none⟩) (by simp)).trans (by go_keep);have r2:w3.cell? ⟨wr.heap.size,2,none⟩=some (.slice B2 x.vars.length u2):=(hb.cell (p:=⟨wr.heap.size,2,none⟩) (by simp)).trans (by go_keep);have r3:w3.cell? ⟨wr.heap.size,3,none⟩=some (.slice B3 x.attrs.length u3):=(hb.cell (p:=⟨wr.heap.size,3,none⟩) (by simp)).trans (by go_keep);have b3:Below wr.heap.size wr w3:=(by (repeat (first|exact zJ _ _|assumption|refine yab ?_ _|refine zL ?_|refine yac ?_ (by assumption)|refine yaa ?_ _)));clear hb)
       have k0:w3.cell? ⟨w.heap.size,0,none⟩=some (.slice (some ⟨b0,off,none⟩) n c):=(b3.cell (p:=⟨w.heap.size,0,none⟩) z0).trans k0
       clear hT
       refine wp_region_noPanic ?_
       refine wp_region_held_drew (S:=fun w'=>w'.cell? ⟨w.heap.size,0,none⟩=some (.slice (some ⟨b0,off,none⟩) n c)/\w'.rangeAt wr.heap.size 0 [.string x.path,.slice B1 x.dims.length u1,.slice B2 x.vars.length u2,.slice B3 x.attrs.length u3]/\Below wr.heap.size wr w') (by kernel_rfl) ⟨k0,row4 ⟨r0,r1,r2,r3⟩,(by (repeat (first|exact zJ _ _|assumption|refine yab ?_ _|refine zL ?_|refine yac ?_ (by assumption)|refine yaa ?_ _)))⟩ (fun hHeld=>?_)
       refine tRun [(0,45,some (.int .i64 (k:Int)))] hHeld (by kernel_rfl) ?_
       simp only[runA,Act.put,zB,zC,zD]
       refine tVal 1 46 (.bool false) hHeld (by kernel_rfl) (fun w' hSw=>?_) ?_
       ·simp only[zE,zF,zG,zH,zI];first|(go_simp;done)|(with_reducible rfl)|(go_simp;omega)
       simp only[Act.put,zB,zC,zD]
       refine tRun ((2,47,some (.bool false))::(noR 3 48 20 [(23,68,some (.bool false)),(24,69,some (.bool false))])) hHeld (by kernel_rfl) ?_
       simp only[runA,noR,Act.put,zB,zC,zD]
       refine tLoad 25 70 55 (.tmp 4) wr.heap.size 0 [.string x.path,.slice B1 x.dims.length u1,.slice B2 x.vars.length u2,.slice B3 x.attrs.length u3] hHeld (by kernel_rfl) (by kernel_rfl) rfl (fun w' hw'=>hw'.2.1) Tryz.underlying55 rfl (by kernel_rfl) ?_
       simp only[Act.put,zB,zC,zD]
       refine tEnter 26 71 14 #[.agg #[.string x.path,.slice B1 x.dims.length u1,.slice B2 x.vars.length u2,.slice B3 x.attrs.length u3]] (by kernel_rfl) (by kernel_rfl) (by kernel_rfl) (LI _ (HBr.out _ hHeld.2.2)) ?_
       rintro e w5 ⟨rfl,hb⟩
       refine⟨_,rfl,⟨(hb.cell (p:=⟨w.heap.size,0,none⟩) (World.block_lt_of_cell? _ _ hHeld.1)).trans hHeld.1,yad hHeld.2.1 hb (World.block_lt_of_cell? _ _ (hHeld.2.1 0 _ rfl)),yac hHeld.2.2 hb⟩,fun hHeld=>?_⟩
       simp only[Act.put,zB,zC,zD]
       clear hb
       refine tRun [(27,72,some (.bool true)),(28,73,some (.bool true))] hHeld (by kernel_rfl) ?_
       simp only[runA,Act.put,zB,zC,zD]
       refine wpAnyH_done (by kernel_rfl) (tNoP ?_) _
       have b4:Below wr.heap.size wr _:=hHeld.2.2
       clear hHeld
       go_wp2
       go_ret
       exact⟨rfl,HBr.out _ (by (repeat (first|exact zJ _ _|assumption|refine yab ?_ _|refine zL ?_|refine yac ?_ (by assumption)|refine yaa ?_ _)))⟩
      ·have HA2:=zh (HAn.out (hpl.trans hli))
       simp only[hli] at LI
       clear HXn HAn hpl HPA
       go_wp2_with (go_at_call 5;(with_reducible refine(PA _ (HBr.out _ (by (repeat (first|exact zJ _ _|assumption|refine yab ?_ _|refine zL ?_|refine yac ?_ (by assumption)|refine yaa ?_ _))))).mono ?_);rintro e w3 ⟨hb,T,hT,rfl⟩;have r0:w3.cell? ⟨wr.heap.size,0,none⟩=some (.string x.path):=(hb.cell (p:=⟨wr.heap.size,0,none⟩) (by simp)).trans (by go_keep);have r1:w3.cell? ⟨wr.heap.size,1,none⟩=some (.slice B1 x.dims.length u1):=(hb.cell (p:=⟨wr.heap.size,1,none⟩) (by simp)).trans (by go_keep);have r2:w3.cell? ⟨wr.heap.size,2,none⟩=some (.slice B2 x.vars.length u2):=(hb.cell (p:=⟨wr.heap.size,2,none⟩) (by simp)).trans (by go_keep);have r3:w3.cell? ⟨wr.heap.size,3,none⟩=some (.slice B3 x.attrs.length u3):=(hb.cell (p:=⟨wr.heap.size,3,none⟩) (by simp)).trans (by go_keep);have b3:Below wr.heap.size wr w3:=(by (repeat (first|exact zJ _ _|assumption|refine yab ?_ _|refine zL ?_|refine yac ?_ (by assumption)|refine yaa ?_ _)));clear hb)
       have k0:w3.cell? ⟨w.heap.size,0,none⟩=some (.slice (some ⟨b0,off,none⟩) n c):=(b3.cell (p:=⟨w.heap.size,0,none⟩) z0).trans k0
       clear hT
       refine wp_region_noPanic ?_
       refine wp_region_held_drew (S:=fun w'=>w'.cell? ⟨w.heap.size,0,none⟩=some (.slice (some ⟨b0,off,none⟩) n c)/\w'.rangeAt wr.heap.size 0 [.string x.path,.slice B1 x.dims.length u1,.slice B2 x.vars.length u2,.slice B3 x.attrs.length u3]/\Below wr.heap.size wr w') (by kernel_rfl) ⟨k0,row4 ⟨r0,r1,r2,r3⟩,(by (repeat (first|exact zJ _ _|assumption|refine yab ?_ _|refine zL ?_|refine yac ?_ (by assumption)|refine yaa ?_ _)))⟩ (fun hHeld=>?_)
       refine tRun [(0,45,some (.int .i64 (k:Int)))] hHeld (by kernel_rfl) ?_
       simp only[runA,Act.put,zB,zC,zD]
       refine tVal 1 46 (.bool false) hHeld (by kernel_rfl) (fun w' hSw=>?_) ?_
       ·simp only[zE,zF,zG,zH,zI];first|(go_simp;done)|(with_reducible rfl)|(go_simp;omega)
       simp only[Act.put,zB,zC,zD]
       refine tRun ((2,47,some (.bool false))::(noR 3 48 20 [(23,68,some (.bool false)),(24,69,some (.bool false))])) hHeld (by kernel_rfl) ?_
       simp only[runA,noR,Act.put,zB,zC,zD]
       refine tLoad 25 70 55 (.tmp 4) wr.heap.size 0 [.string x.path,.slice B1 x.dims.length u1,.slice B2 x.vars.length u2,.slice B3 x.attrs.length u3] hHeld (by kernel_rfl) (by kernel_rfl) rfl (fun w' hw'=>hw'.2.1) Tryz.underlying55 rfl (by kernel_rfl) ?_
       simp only[Act.put,zB,zC,zD]
       refine tEnter 26 71 14 #[.agg #[.string x.path,.slice B1 x.dims.length u1,.slice B2 x.vars.length u2,.slice B3 x.attrs.length u3]] (by kernel_rfl) (by kernel_rfl) (by kernel_rfl) (LI _ (HBr.out _ hHeld.2.2)) ?_
       rintro e w5 ⟨rfl,hb⟩
       refine⟨_,rfl,⟨(hb.cell (p:=⟨w.heap.size,0,none⟩) (World.block_lt_of_cell? _ _ hHeld.1)).trans hHeld.1,yad hHeld.2.1 hb (World.block_lt_of_cell? _ _ (hHeld.2.1 0 _ rfl)),yac hHeld.2.2 hb⟩,fun hHeld=>?_⟩
       simp only[Act.put,zB,zC,zD]
       clear hb
       refine tRun [(27,72,some (.bool false)),(28,73,some (.bool false))] hHeld (by kernel_rfl) ?_
       simp only[runA,Act.put,zB,zC,zD]
       refine wpAnyH_done (by kernel_rfl) (tNoP ?_) _
       have b4:Below wr.heap.size wr _:=hHeld.2.2
       clear hHeld
       go_wp2
       go_roundw
       case rel=>exact⟨k+1,by omega,by go_num,HA2,zh (HBx.out _ (by (repeat (first|exact zJ _ _|assumption|refine yab ?_ _|refine zL ?_|refine yac ?_ (by assumption)|refine yaa ?_ _))))⟩
       case measure=>simp only[intOf];omega
    ·obtain⟨j,hjk⟩:∃ j,k=j+1:=⟨k - 1,by omega⟩
     obtain⟨y,hy⟩:∃ y,xs[j]?=some y:=⟨_,List.getElem?_eq_getElem (by have:=HN.out;omega)⟩
     obtain⟨b1,off1,vs1,e1',_,_,ry,hp1⟩:=HV.out.get hy
     injection e1' with e1'
     injection e1' with e1' e2'
     subst e1' e2'
     obtain⟨y1,y2,y3,rfl,_⟩:=hp1
     have p0:wr.cell? ⟨b0,off+j*4,none⟩=some (.string y.path):=((HB.out wr hB.out).cell (p:=⟨b0,off+j*4,none⟩) HZ.out.2).trans (ry 0 _ rfl)
     have hj0:(0:Int)<(k:Int):=by omega
     have hj1:IntKind.i64.wrap ((k:Int) - 1)=(j:Int):=by rw[IntWalk.i64_in _ (by omega)];omega
     have hj2:j<n:=by omega
     have hjn:(j:Int)<(n:Int):=by omega
     have ew:Op.bytesLess y.path.toList x.path.toList=Op.bytesLess (bl y.path) (bl x.path):=by rw[Lib.toList_data,Lib.toList_data];rfl
     have GR:=fun T w2 (hb:Below w.heap.size w w2)=>ydv (.slice (some ⟨b0,off,none⟩) n c) xs T w2 ((VL.keeps yah HV.out hb).lifts yai hb.size)
     cases hpar:parentB (bl x.path) with
     | none=>
      have hX:=HXn.out (by rw[hjk];exact yk3 hpar)
      subst hX
      rw[hpar] at PA
      clear HP HN HW HV hx HXn HAn hk0 hjk hpar hy ry LI GR
      go_wp2_with (go_at_call 5;(with_reducible refine(PA _ (HBr.out _ (by (repeat (first|exact zJ _ _|assumption|refine yab ?_ _|refine zL ?_|refine yac ?_ (by assumption)|refine yaa ?_ _))))).mono ?_);rintro e w3 ⟨hb,rfl⟩;have r0:w3.cell? ⟨wr.heap.size,0,none⟩=some (.string x.path):=(hb.cell (p:=⟨wr.heap.size,0,none⟩) (by simp)).trans (by go_keep);have r1:w3.cell? ⟨wr.heap.size,1,none⟩=some (.slice B1 x.dims.length u1):=(hb.cell (p:=⟨wr.heap.size,1,none⟩) (by simp)).trans (by go_keep);have r2:w3.cell? ⟨wr.heap.size,2,none⟩=some (.slice B2 x.vars.length u2):=(hb.cell (p:=⟨wr.heap.size,2,none⟩) (by simp)).trans (by go_keep);have r3:w3.cell? ⟨wr.heap.size,3,none⟩=some (.slice B3 x.attrs.length u3):=(hb.cell (p:=⟨wr.heap.size,3,none⟩) (by simp)).trans (by go_keep);have b3:Below wr.heap.size wr w3:=(by (repeat (first|exact zJ _ _|assumption|refine yab ?_ _|refine zL ?_|refine yac ?_ (by assumption)|refine yaa ?_ _)));clear hb)
      have k0:w3.cell? ⟨w.heap.size,0,none⟩=some (.slice (some ⟨b0,off,none⟩) n c):=(b3.cell (p:=⟨w.heap.size,0,none⟩) z0).trans k0
      have p0:w3.cell? ⟨b0,off+j*4,none⟩=some (.string y.path):=(b3.cell (p:=⟨b0,off+j*4,none⟩) z1).trans p0
      refine wp_region_noPanic ?_
      refine wp_region_held_drew (S:=fun w'=>w'.cell? ⟨w.heap.size,0,none⟩=some (.slice (some ⟨b0,off,none⟩) n c)/\w'.rangeAt wr.heap.size 0 [.string x.path,.slice B1 x.dims.length u1,.slice B2 x.vars.length u2,.slice B3 x.attrs.length u3]/\w'.cell? ⟨b0,off+j*4,none⟩=some (.string y.path)/\Below wr.heap.size wr w') (by kernel_rfl) ⟨k0,row4 ⟨r0,r1,r2,r3⟩,p0,(by (repeat (first|exact zJ _ _|assumption|refine yab ?_ _|refine zL ?_|refine yac ?_ (by assumption)|refine yaa ?_ _)))⟩ (fun hHeld=>?_)
      refine tRun [(0,45,some (.int .i64 (k:Int)))] hHeld (by kernel_rfl) ?_
      simp only[runA,Act.put,zB,zC,zD]
      refine tVal 1 46 (.bool true) hHeld (by kernel_rfl) (fun w' hSw=>?_) ?_
      ·simp only[zE,zF,zG,zH,zI];first|(go_simp;done)|(with_reducible rfl)|(go_simp;omega)
      simp only[Act.put,zB,zC,zD]
      refine tRun ((2,47,some (.bool true))::(3,48,some (.bool false))::(4,49,some (.bool true))::(5,50,some (.bool true))::(noR 6 51 10 ((16,61,some (.bool true))::(17,62,some (.bool true))::(noR 18 63 4 ((22,67,some (.bool true))::(23,68,some (.bool true))::(24,69,some (.bool true))::(noR 25 70 3 [(28,73,some (.bool true))])))))) hHeld (by kernel_rfl) ?_
      simp only[runA,noR,Act.put,zB,zC,zD]
      refine wpAnyH_done (by kernel_rfl) (tNoP ?_) _
      have b4:Below wr.heap.size wr _:=hHeld.2.2.2
      clear hHeld
      go_wp2
      go_ret
      exact⟨rfl,HBr.out _ (by (repeat (first|exact zJ _ _|assumption|refine yab ?_ _|refine zL ?_|refine yac ?_ (by assumption)|refine yaa ?_ _)))⟩
     | some up=>
      have hpl:placeB xs k x=((Op.bytesLess (bl y.path) (bl x.path)&&(groupIx xs up).isSome)&&listsB x):=by rw[hjk];exact ykl hpar hy
      rw[hpar] at PA
      clear HP HN HW HV hx hk0 hjk hpar hy ry
      cases hle:Op.bytesLess (bl y.path) (bl x.path)
      ·rw[hle] at ew hpl
       have hX:=HXn.out hpl
       subst hX
       clear HXn HAn hpl hle LI GR
       go_wp2_with (go_at_call 5;(with_reducible refine(PA _ (HBr.out _ (by (repeat (first|exact zJ _ _|assumption|refine yab ?_ _|refine zL ?_|refine yac ?_ (by assumption)|refine yaa ?_ _))))).mono ?_);rintro e w3 ⟨hb,T,hT,rfl⟩;have r0:w3.cell? ⟨wr.heap.size,0,none⟩=some (.string x.path):=(hb.cell (p:=⟨wr.heap.size,0,none⟩) (by simp)).trans (by go_keep);have r1:w3.cell? ⟨wr.heap.size,1,none⟩=some (.slice B1 x.dims.length u1):=(hb.cell (p:=⟨wr.heap.size,1,none⟩) (by simp)).trans (by go_keep);have r2:w3.cell? ⟨wr.heap.size,2,none⟩=some (.slice B2 x.vars.length u2):=(hb.cell (p:=⟨wr.heap.size,2,none⟩) (by simp)).trans (by go_keep);have r3:w3.cell? ⟨wr.heap.size,3,none⟩=some (.slice B3 x.attrs.length u3):=(hb.cell (p:=⟨wr.heap.size,3,none⟩) (by simp)).trans (by go_keep);have b3:Below wr.heap.size wr w3:=(by (repeat (first|exact zJ _ _|assumption|refine yab ?_ _|refine zL ?_|refine yac ?_ (by assumption)|refine yaa ?_ _)));clear hb)
       have k0:w3.cell? ⟨w.heap.size,0,none⟩=some (.slice (some ⟨b0,off,none⟩) n c):=(b3.cell (p:=⟨w.heap.size,0,none⟩) z0).trans k0
       clear hT
       have p0:w3.cell? ⟨b0,off+j*4,none⟩=some (.string y.path):=(b3.cell (p:=⟨b0,off+j*4,none⟩) z1).trans p0
       refine wp_region_noPanic ?_
       refine wp_region_held_drew (S:=fun w'=>w'.cell? ⟨w.heap.size,0,none⟩=some (.slice (some ⟨b0,off,none⟩) n c)/\w'.rangeAt wr.heap.size 0 [.string x.path,.slice B1 x.dims.length u1,.slice B2 x.vars.length u2,.slice B3 x.attrs.length u3]/\w'.cell? ⟨b0,off+j*4,none⟩=some (.string y.path)/\Below wr.heap.size wr w') (by kernel_rfl) ⟨k0,row4 ⟨r0,r1,r2,r3⟩,p0,(by (repeat (first|exact zJ _ _|assumption|refine yab ?_ _|refine zL ?_|refine yac ?_ (by assumption)|refine yaa ?_ _)))⟩ (fun hHeld=>?_)
       refine tRun [(0,45,some (.int .i64 (k:Int)))] hHeld (by kernel_rfl) ?_
       simp only[runA,Act.put,zB,zC,zD]
       refine tVal 1 46 (.bool true) hHeld (by kernel_rfl) (fun w' hSw=>?_) ?_
       ·simp only[zE,zF,zG,zH,zI];first|(go_simp;done)|(with_reducible rfl)|(go_simp;omega)
       simp only[Act.put,zB,zC,zD]
       refine tRun [(2,47,some (.bool true)),(3,48,some (.bool true)),(4,49,some (.bool false)),(5,50,some (.bool false))] hHeld (by kernel_rfl) ?_
       simp only[runA,Act.put,zB,zC,zD]
       refine tVal 6 51 (.pointer (some ⟨w.heap.size,0,none⟩)) hHeld (by kernel_rfl) (fun w' hSw=>?_) ?_
       ·simp only[zE,zF,zG,zH,zI];first|(go_simp;done)|(with_reducible rfl)|(go_simp;omega)
       simp only[Act.put,zB,zC,zD]
       refine tVal 7 52 (.slice (some ⟨b0,off,none⟩) n c) hHeld (by kernel_rfl) (fun w' hSw=>?_) ?_
       ·obtain⟨q1,q2,q3,q4⟩:=hSw;simp only[zE,zF,zG,zH,zI];first|(go_simp;done)|(with_reducible rfl)|(go_simp;omega)
       simp only[Act.put,zB,zC,zD]
       refine tRun [(8,53,some (.int .i64 (k:Int)))] hHeld (by kernel_rfl) ?_
       simp only[runA,Act.put,zB,zC,zD]
       refine tVal 9 54 (.int .i64 (j:Int)) hHeld (by kernel_rfl) (fun w' hSw=>?_) ?_
       ·simp only[zE,zF,zG,zH,zI];first|(go_simp;done)|(with_reducible rfl)|(go_simp;omega)
       simp only[Act.put,zB,zC,zD]
       refine tVal 10 55 (.pointer (some ⟨b0,off+j*4,none⟩)) hHeld (by kernel_rfl) (fun w' hSw=>?_) ?_
       ·simp only[zE,zF,zG,zH,zI];first|(go_simp;done)|(with_reducible rfl)|(go_simp;omega)
       simp only[Act.put,zB,zC,zD]
       refine tVal 11 56 (.pointer (some ⟨b0,off+j*4,none⟩)) hHeld (by kernel_rfl) (fun w' hSw=>?_) ?_
       ·simp only[zE,zF,zG,zH,zI];first|(go_simp;done)|(with_reducible rfl)|(go_simp;omega)
       simp only[Act.put,zB,zC,zD]
       refine tVal 12 57 (.string y.path) hHeld (by kernel_rfl) (fun w' hSw=>?_) ?_
       ·obtain⟨q1,q2,q3,q4⟩:=hSw;simp only[zE,zF,zG,zH,zI];first|(go_simp;done)|(with_reducible rfl)|(go_simp;omega)
       simp only[Act.put,zB,zC,zD]
       refine tVal 13 58 (.pointer (some ⟨wr.heap.size,0,none⟩)) hHeld (by kernel_rfl) (fun w' hSw=>?_) ?_
       ·simp only[zE,zF,zG,zH,zI];first|(go_simp;done)|(with_reducible rfl)|(go_simp;omega)
       simp only[Act.put,zB,zC,zD]
       refine tVal 14 59 (.string x.path) hHeld (by kernel_rfl) (fun w' hSw=>?_) ?_
       ·obtain⟨q1,q2,q3,q4⟩:=hSw;have q5:=q2 0 _ rfl;rw[Nat.zero_add] at q5;simp only[zE,zF,zG,zH,zI];first|(go_simp;done)|(with_reducible rfl)|(go_simp;omega)
       simp only[Act.put,zB,zC,zD]
       refine tVal 15 60 (.bool true) hHeld (by kernel_rfl) (fun w' hSw=>?_) ?_
       ·simp only[zE,zF,zG,zH,zI];first|(go_simp;done)|(with_reducible rfl)|(go_simp;omega)
       simp only[Act.put,zB,zC,zD]
       refine tRun ((16,61,some (.bool true))::(17,62,some (.bool true))::(noR 18 63 4 ((22,67,some (.bool true))::(23,68,some (.bool true))::(24,69,some (.bool true))::(noR 25 70 3 [(28,73,some (.bool true))])))) hHeld (by kernel_rfl) ?_
       simp only[runA,noR,Act.put,zB,zC,zD]
       refine wpAnyH_done (by kernel_rfl) (tNoP ?_) _
       have b4:Below wr.heap.size wr _:=hHeld.2.2.2
       clear hHeld
       go_wp2
       go_ret
       exact⟨rfl,HBr.out _ (by (repeat (first|exact zJ _ _|assumption|refine yab ?_ _|refine zL ?_|refine yac ?_ (by assumption)|refine yaa ?_ _)))⟩
      ·rw[hle] at ew hpl
       cases hgi:groupIx xs up with
       | none=>
        rw[hgi] at hpl
        have hX:=HXn.out hpl
        subst hX
        clear HXn HAn hpl hle LI
        go_wp2_with (go_at_call 5;(with_reducible refine(PA _ (HBr.out _ (by (repeat (first|exact zJ _ _|assumption|refine yab ?_ _|refine zL ?_|refine yac ?_ (by assumption)|refine yaa ?_ _))))).mono ?_);rintro e w3 ⟨hb,T,hT,rfl⟩;have r0:w3.cell? ⟨wr.heap.size,0,none⟩=some (.string x.path):=(hb.cell (p:=⟨wr.heap.size,0,none⟩) (by simp)).trans (by go_keep);have r1:w3.cell? ⟨wr.heap.size,1,none⟩=some (.slice B1 x.dims.length u1):=(hb.cell (p:=⟨wr.heap.size,1,none⟩) (by simp)).trans (by go_keep);have r2:w3.cell? ⟨wr.heap.size,2,none⟩=some (.slice B2 x.vars.length u2):=(hb.cell (p:=⟨wr.heap.size,2,none⟩) (by simp)).trans (by go_keep);have r3:w3.cell? ⟨wr.heap.size,3,none⟩=some (.slice B3 x.attrs.length u3):=(hb.cell (p:=⟨wr.heap.size,3,none⟩) (by simp)).trans (by go_keep);have b3:Below wr.heap.size wr w3:=(by (repeat (first|exact zJ _ _|assumption|refine yab ?_ _|refine zL ?_|refine yac ?_ (by assumption)|refine yaa ?_ _)));clear hb)
        have k0:w3.cell? ⟨w.heap.size,0,none⟩=some (.slice (some ⟨b0,off,none⟩) n c):=(b3.cell (p:=⟨w.heap.size,0,none⟩) z0).trans k0
        have p0:w3.cell? ⟨b0,off+j*4,none⟩=some (.string y.path):=(b3.cell (p:=⟨b0,off+j*4,none⟩) z1).trans p0
        have GR:=fun w2 hb=>GR T w2 hb
        rw[hT] at GR
        simp only[show xs.findIdx? (fun x=>bl x.path==up)=none from hgi,ixV] at GR
        clear hT hgi
        refine wp_region_noPanic ?_
        refine wp_region_held_drew (S:=fun w'=>w'.cell? ⟨w.heap.size,0,none⟩=some (.slice (some ⟨b0,off,none⟩) n c)/\w'.rangeAt wr.heap.size 0 [.string x.path,.slice B1 x.dims.length u1,.slice B2 x.vars.length u2,.slice B3 x.attrs.length u3]/\w'.cell? ⟨b0,off+j*4,none⟩=some (.string y.path)/\Below wr.heap.size wr w') (by kernel_rfl) ⟨k0,row4 ⟨r0,r1,r2,r3⟩,p0,(by (repeat (first|exact zJ _ _|assumption|refine yab ?_ _|refine zL ?_|refine yac ?_ (by assumption)|refine yaa ?_ _)))⟩ (fun hHeld=>?_)
        refine tRun [(0,45,some (.int .i64 (k:Int)))] hHeld (by kernel_rfl) ?_
        simp only[runA,Act.put,zB,zC,zD]
        refine tVal 1 46 (.bool true) hHeld (by kernel_rfl) (fun w' hSw=>?_) ?_
        ·simp only[zE,zF,zG,zH,zI];first|(go_simp;done)|(with_reducible rfl)|(go_simp;omega)
        simp only[Act.put,zB,zC,zD]
        refine tRun [(2,47,some (.bool true)),(3,48,some (.bool true)),(4,49,some (.bool false)),(5,50,some (.bool false))] hHeld (by kernel_rfl) ?_
        simp only[runA,Act.put,zB,zC,zD]
        refine tVal 6 51 (.pointer (some ⟨w.heap.size,0,none⟩)) hHeld (by kernel_rfl) (fun w' hSw=>?_) ?_
        ·simp only[zE,zF,zG,zH,zI];first|(go_simp;done)|(with_reducible rfl)|(go_simp;omega)
        simp only[Act.put,zB,zC,zD]
        refine tVal 7 52 (.slice (some ⟨b0,off,none⟩) n c) hHeld (by kernel_rfl) (fun w' hSw=>?_) ?_
        ·obtain⟨q1,q2,q3,q4⟩:=hSw;simp only[zE,zF,zG,zH,zI];first|(go_simp;done)|(with_reducible rfl)|(go_simp;omega)
        simp only[Act.put,zB,zC,zD]
        refine tRun [(8,53,some (.int .i64 (k:Int)))] hHeld (by kernel_rfl) ?_
        simp only[runA,Act.put,zB,zC,zD]
        refine tVal 9 54 (.int .i64 (j:Int)) hHeld (by kernel_rfl) (fun w' hSw=>?_) ?_
        ·simp only[zE,zF,zG,zH,zI];first|(go_simp;done)|(with_reducible rfl)|(go_simp;omega)
        simp only[Act.put,zB,zC,zD]
        refine tVal 10 55 (.pointer (some ⟨b0,off+j*4,none⟩)) hHeld (by kernel_rfl) (fun w' hSw=>?_) ?_
        ·simp only[zE,zF,zG,zH,zI];first|(go_simp;done)|(with_reducible rfl)|(go_simp;omega)
        simp only[Act.put,zB,zC,zD]
        refine tVal 11 56 (.pointer (some ⟨b0,off+j*4,none⟩)) hHeld (by kernel_rfl) (fun w' hSw=>?_) ?_
        ·simp only[zE,zF,zG,zH,zI];first|(go_simp;done)|(with_reducible rfl)|(go_simp;omega)
        simp only[Act.put,zB,zC,zD]
        refine tVal 12 57 (.string y.path) hHeld (by kernel_rfl) (fun w' hSw=>?_) ?_
        ·obtain⟨q1,q2,q3,q4⟩:=hSw;simp only[zE,zF,zG,zH,zI];first|(go_simp;done)|(with_reducible rfl)|(go_simp;omega)
        simp only[Act.put,zB,zC,zD]
        refine tVal 13 58 (.pointer (some ⟨wr.heap.size,0,none⟩)) hHeld (by kernel_rfl) (fun w' hSw=>?_) ?_
        ·simp only[zE,zF,zG,zH,zI];first|(go_simp;done)|(with_reducible rfl)|(go_simp;omega)
        simp only[Act.put,zB,zC,zD]
        refine tVal 14 59 (.string x.path) hHeld (by kernel_rfl) (fun w' hSw=>?_) ?_
        ·obtain⟨q1,q2,q3,q4⟩:=hSw;have q5:=q2 0 _ rfl;rw[Nat.zero_add] at q5;simp only[zE,zF,zG,zH,zI];first|(go_simp;done)|(with_reducible rfl)|(go_simp;omega)
        simp only[Act.put,zB,zC,zD]
        refine tVal 15 60 (.bool false) hHeld (by kernel_rfl) (fun w' hSw=>?_) ?_
        ·simp only[zE,zF,zG,zH,zI];first|(go_simp;done)|(with_reducible rfl)|(go_simp;omega)
        simp only[Act.put,zB,zC,zD]
        refine tRun [(16,61,some (.bool false)),(17,62,some (.bool false))] hHeld (by kernel_rfl) ?_
        simp only[runA,Act.put,zB,zC,zD]
        refine tLoad 18 63 24 (.tmp 1) w.heap.size 0 [.slice (some ⟨b0,off,none⟩) n c] hHeld (by kernel_rfl) (by kernel_rfl) rfl (fun w' hw'=>row1 hw'.1) Tryz.underlying24 rfl (by kernel_rfl) ?_
        simp only[Act.put,zB,zC,zD]
        refine tRun [(19,64,some (.string T))] hHeld (by kernel_rfl) ?_
        simp only[runA,Act.put,zB,zC,zD]
        refine tEnter 20 65 13 #[.agg #[.slice (some ⟨b0,off,none⟩) n c],.string T] (by kernel_rfl) (by kernel_rfl) (by kernel_rfl) (GR _ (HBr.out _ hHeld.2.2.2)) ?_
        rintro e w4 ⟨rfl,hb⟩
        refine⟨_,rfl,⟨(hb.cell (p:=⟨w.heap.size,0,none⟩) (World.block_lt_of_cell? _ _ hHeld.1)).trans hHeld.1,yad hHeld.2.1 hb (World.block_lt_of_cell? _ _ (hHeld.2.1 0 _ rfl)),(hb.cell (p:=⟨b0,off+j*4,none⟩) (World.block_lt_of_cell? _ _ hHeld.2.2.1)).trans hHeld.2.2.1,yac hHeld.2.2.2 hb⟩,fun hHeld=>?_⟩
        simp only[Act.put,zB,zC,zD]
        clear hb
        refine tVal 21 66 (.bool true) hHeld (by kernel_rfl) (fun w' hSw=>?_) ?_
        ·simp only[zE,zF,zG,zH,zI];first|(go_simp;done)|(with_reducible rfl)|(go_simp;omega)
        simp only[Act.put,zB,zC,zD]
        refine tRun ((22,67,some (.bool true))::(23,68,some (.bool true))::(24,69,some (.bool true))::(noR 25 70 3 [(28,73,some (.bool true))])) hHeld (by kernel_rfl) ?_
        simp only[runA,noR,Act.put,zB,zC,zD]
        refine wpAnyH_done (by kernel_rfl) (tNoP ?_) _
        have b4:Below wr.heap.size wr _:=hHeld.2.2.2
        clear hHeld
        go_wp2
        go_ret
        exact⟨rfl,HBr.out _ (by (repeat (first|exact zJ _ _|assumption|refine yab ?_ _|refine zL ?_|refine yac ?_ (by assumption)|refine yaa ?_ _)))⟩
       | some g=>
        rw[hgi] at hpl
        have hg0:(0:Int)<=(g:Int):=by omega
        cases hli:listsB x
        ·have hX:=HXn.out (hpl.trans hli)
         subst hX
         simp only[hli] at LI
         clear HXn HAn hpl hle
         go_wp2_with (go_at_call 5;(with_reducible refine(PA _ (HBr.out _ (by (repeat (first|exact zJ _ _|assumption|refine yab ?_ _|refine zL ?_|refine yac ?_ (by assumption)|refine yaa ?_ _))))).mono ?_);rintro e w3 ⟨hb,T,hT,rfl⟩;have r0:w3.cell? ⟨wr.heap.size,0,none⟩=some (.string x.path):=(hb.cell (p:=⟨wr.heap.size,0,none⟩) (by simp)).trans (by go_keep);have r1:w3.cell? ⟨wr.heap.size,1,none⟩=some (.slice B1 x.dims.length u1):=(hb.cell (p:=⟨wr.heap.size,1,none⟩) (by simp)).trans (by go_keep);have r2:w3.cell? ⟨wr.heap.size,2,none⟩=some (.slice B2 x.vars.length u2):=(hb.cell (p:=⟨wr.heap.size,2,none⟩) (by simp)).trans (by go_keep);have r3:w3.cell? ⟨wr.heap.size,3,none⟩=some (.slice B3 x.attrs.length u3):=(hb.cell (p:=⟨wr.heap.size,3,none⟩) (by simp)).trans (by go_keep);have b3:Below wr.heap.size wr w3:=(by (repeat (first|exact zJ _ _|assumption|refine yab ?_ _|refine zL ?_|refine yac ?_ (by assumption)|refine yaa ?_ _)));clear hb)
         have k0:w3.cell? ⟨w.heap.size,0,none⟩=some (.slice (some ⟨b0,off,none⟩) n c):=(b3.cell (p:=⟨w.heap.size,0,none⟩) z0).trans k0
         have p0:w3.cell? ⟨b0,off+j*4,none⟩=some (.string y.path):=(b3.cell (p:=⟨b0,off+j*4,none⟩) z1).trans p0
         have GR:=fun w2 hb=>GR T w2 hb
         rw[hT] at GR
         simp only[show xs.findIdx? (fun x=>bl x.path==up)=some g from hgi,ixV] at GR
         clear hT hgi
         refine wp_region_noPanic ?_
         refine wp_region_held_drew (S:=fun w'=>w'.cell? ⟨w.heap.size,0,none⟩=some (.slice (some ⟨b0,off,none⟩) n c)/\w'.rangeAt wr.heap.size 0 [.string x.path,.slice B1 x.dims.length u1,.slice B2 x.vars.length u2,.slice B3 x.attrs.length u3]/\w'.cell? ⟨b0,off+j*4,none⟩=some (.string y.path)/\Below wr.heap.size wr w') (by kernel_rfl) ⟨k0,row4 ⟨r0,r1,r2,r3⟩,p0,(by (repeat (first|exact zJ _ _|assumption|refine yab ?_ _|refine zL ?_|refine yac ?_ (by assumption)|refine yaa ?_ _)))⟩ (fun hHeld=>?_)
         refine tRun [(0,45,some (.int .i64 (k:Int)))] hHeld (by kernel_rfl) ?_
         simp only[runA,Act.put,zB,zC,zD]
         refine tVal 1 46 (.bool true) hHeld (by kernel_rfl) (fun w' hSw=>?_) ?_
         ·simp only[zE,zF,zG,zH,zI];first|(go_simp;done)|(with_reducible rfl)|(go_simp;omega)
         simp only[Act.put,zB,zC,zD]
         refine tRun [(2,47,some (.bool true)),(3,48,some (.bool true)),(4,49,some (.bool false)),(5,50,some (.bool false))] hHeld (by kernel_rfl) ?_
         simp only[runA,Act.put,zB,zC,zD]
         refine tVal 6 51 (.pointer (some ⟨w.heap.size,0,none⟩)) hHeld (by kernel_rfl) (fun w' hSw=>?_) ?_
         ·simp only[zE,zF,zG,zH,zI];first|(go_simp;done)|(with_reducible rfl)|(go_simp;omega)
         simp only[Act.put,zB,zC,zD]
         refine tVal 7 52 (.slice (some ⟨b0,off,none⟩) n c) hHeld (by kernel_rfl) (fun w' hSw=>?_) ?_
         ·obtain⟨q1,q2,q3,q4⟩:=hSw;simp only[zE,zF,zG,zH,zI];first|(go_simp;done)|(with_reducible rfl)|(go_simp;omega)
         simp only[Act.put,zB,zC,zD]
         refine tRun [(8,53,some (.int .i64 (k:Int)))] hHeld (by kernel_rfl) ?_
         simp only[runA,Act.put,zB,zC,zD]
         refine tVal 9 54 (.int .i64 (j:Int)) hHeld (by kernel_rfl) (fun w' hSw=>?_) ?_
         ·simp only[zE,zF,zG,zH,zI];first|(go_simp;done)|(with_reducible rfl)|(go_simp;omega)
         simp only[Act.put,zB,zC,zD]
         refine tVal 10 55 (.pointer (some ⟨b0,off+j*4,none⟩)) hHeld (by kernel_rfl) (fun w' hSw=>?_) ?_
         ·simp only[zE,zF,zG,zH,zI];first|(go_simp;done)|(with_reducible rfl)|(go_simp;omega)
         simp only[Act.put,zB,zC,zD]
         refine tVal 11 56 (.pointer (some ⟨b0,off+j*4,none⟩)) hHeld (by kernel_rfl) (fun w' hSw=>?_) ?_
         ·simp only[zE,zF,zG,zH,zI];first|(go_simp;done)|(with_reducible rfl)|(go_simp;omega)
         simp only[Act.put,zB,zC,zD]
         refine tVal 12 57 (.string y.path) hHeld (by kernel_rfl) (fun w' hSw=>?_) ?_
         ·obtain⟨q1,q2,q3,q4⟩:=hSw;simp only[zE,zF,zG,zH,zI];first|(go_simp;done)|(with_reducible rfl)|(go_simp;omega)
         simp only[Act.put,zB,zC,zD]
         refine tVal 13 58 (.pointer (some ⟨wr.heap.size,0,none⟩)) hHeld (by kernel_rfl) (fun w' hSw=>?_) ?_
         ·simp only[zE,zF,zG,zH,zI];first|(go_simp;done)|(with_reducible rfl)|(go_simp;omega)
         simp only[Act.put,zB,zC,zD]
         refine tVal 14 59 (.string x.path) hHeld (by kernel_rfl) (fun w' hSw=>?_) ?_
         ·obtain⟨q1,q2,q3,q4⟩:=hSw;have q5:=q2 0 _ rfl;rw[Nat.zero_add] at q5;simp only[zE,zF,zG,zH,zI];first|(go_simp;done)|(with_reducible rfl)|(go_simp;omega)
         simp only[Act.put,zB,zC,zD]
         refine tVal 15 60 (.bool false) hHeld (by kernel_rfl) (fun w' hSw=>?_) ?_
         ·simp only[zE,zF,zG,zH,zI];first|(go_simp;done)|(with_reducible rfl)|(go_simp;omega)
         simp only[Act.put,zB,zC,zD]
         refine tRun [(16,61,some (.bool false)),(17,62,some (.bool false))] hHeld (by kernel_rfl) ?_
         simp only[runA,Act.put,zB,zC,zD]
         refine tLoad 18 63 24 (.tmp 1) w.heap.size 0 [.slice (some ⟨b0,off,none⟩) n c] hHeld (by kernel_rfl) (by kernel_rfl) rfl (fun w' hw'=>row1 hw'.1) Tryz.underlying24 rfl (by kernel_rfl) ?_
         simp only[Act.put,zB,zC,zD]
         refine tRun [(19,64,some (.string T))] hHeld (by kernel_rfl) ?_
         simp only[runA,Act.put,zB,zC,zD]
         refine tEnter 20 65 13 #[.agg #[.slice (some ⟨b0,off,none⟩) n c],.string T] (by kernel_rfl) (by kernel_rfl) (by kernel_rfl) (GR _ (HBr.out _ hHeld.2.2.2)) ?_
         rintro e w4 ⟨rfl,hb⟩
         refine⟨_,rfl,⟨(hb.cell (p:=⟨w.heap.size,0,none⟩) (World.block_lt_of_cell? _ _ hHeld.1)).trans hHeld.1,yad hHeld.2.1 hb (World.block_lt_of_cell? _ _ (hHeld.2.1 0 _ rfl)),(hb.cell (p:=⟨b0,off+j*4,none⟩) (World.block_lt_of_cell? _ _ hHeld.2.2.1)).trans hHeld.2.2.1,yac hHeld.2.2.2 hb⟩,fun hHeld=>?_⟩
         simp only[Act.put,zB,zC,zD]
         clear hb
         refine tVal 21 66 (.bool false) hHeld (by kernel_rfl) (fun w' hSw=>?_) ?_
         ·simp only[zE,zF,zG,zH,zI];first|(go_simp;done)|(with_reducible rfl)|(go_simp;omega)
         simp only[Act.put,zB,zC,zD]
         refine tRun [(22,67,some (.bool false)),(23,68,some (.bool false)),(24,69,some (.bool false))] hHeld (by kernel_rfl) ?_
         simp only[runA,Act.put,zB,zC,zD]
         refine tLoad 25 70 55 (.tmp 4) wr.heap.size 0 [.string x.path,.slice B1 x.dims.length u1,.slice B2 x.vars.length u2,.slice B3 x.attrs.length u3] hHeld (by kernel_rfl) (by kernel_rfl) rfl (fun w' hw'=>hw'.2.1) Tryz.underlying55 rfl (by kernel_rfl) ?_
         simp only[Act.put,zB,zC,zD]
         refine tEnter 26 71 14 #[.agg #[.string x.path,.slice B1 x.dims.length u1,.slice B2 x.vars.length u2,.slice B3 x.attrs.length u3]] (by kernel_rfl) (by kernel_rfl) (by kernel_rfl) (LI _ (HBr.out _ hHeld.2.2.2)) ?_
         rintro e w5 ⟨rfl,hb⟩
         refine⟨_,rfl,⟨(hb.cell (p:=⟨w.heap.size,0,none⟩) (World.block_lt_of_cell? _ _ hHeld.1)).trans hHeld.1,yad hHeld.2.1 hb (World.block_lt_of_cell? _ _ (hHeld.2.1 0 _ rfl)),(hb.cell (p:=⟨b0,off+j*4,none⟩) (World.block_lt_of_cell? _ _ hHeld.2.2.1)).trans hHeld.2.2.1,yac hHeld.2.2.2 hb⟩,fun hHeld=>?_⟩
         simp only[Act.put,zB,zC,zD]
         clear hb
         refine tRun [(27,72,some (.bool true)),(28,73,some (.bool true))] hHeld (by kernel_rfl) ?_
         simp only[runA,Act.put,zB,zC,zD]
         refine wpAnyH_done (by kernel_rfl) (tNoP ?_) _
         have b4:Below wr.heap.size wr _:=hHeld.2.2.2
         clear hHeld
         go_wp2
         go_ret
         exact⟨rfl,HBr.out _ (by (repeat (first|exact zJ _ _|assumption|refine yab ?_ _|refine zL ?_|refine yac ?_ (by assumption)|refine yaa ?_ _)))⟩
        ·have HA2:=zh (HAn.out (hpl.trans hli))
         simp only[hli] at LI
         clear HXn HAn hpl hle
         go_wp2_with (go_at_call 5;(with_reducible refine(PA _ (HBr.out _ (by (repeat (first|exact zJ _ _|assumption|refine yab ?_ _|refine zL ?_|refine yac ?_ (by assumption)|refine yaa ?_ _))))).mono ?_);rintro e w3 ⟨hb,T,hT,rfl⟩;have r0:w3.cell? ⟨wr.heap.size,0,none⟩=some (.string x.path):=(hb.cell (p:=⟨wr.heap.size,0,none⟩) (by simp)).trans (by go_keep);have r1:w3.cell? ⟨wr.heap.size,1,none⟩=some (.slice B1 x.dims.length u1):=(hb.cell (p:=⟨wr.heap.size,1,none⟩) (by simp)).trans (by go_keep);have r2:w3.cell? ⟨wr.heap.size,2,none⟩=some (.slice B2 x.vars.length u2):=(hb.cell (p:=⟨wr.heap.size,2,none⟩) (by simp)).trans (by go_keep);have r3:w3.cell? ⟨wr.heap.size,3,none⟩=some (.slice B3 x.attrs.length u3):=(hb.cell (p:=⟨wr.heap.size,3,none⟩) (by simp)).trans (by go_keep);have b3:Below wr.heap.size wr w3:=(by (repeat (first|exact zJ _ _|assumption|refine yab ?_ _|refine zL ?_|refine yac ?_ (by assumption)|refine yaa ?_ _)));clear hb)
         have k0:w3.cell? ⟨w.heap.size,0,none⟩=some (.slice (some ⟨b0,off,none⟩) n c):=(b3.cell (p:=⟨w.heap.size,0,none⟩) z0).trans k0
         have p0:w3.cell? ⟨b0,off+j*4,none⟩=some (.string y.path):=(b3.cell (p:=⟨b0,off+j*4,none⟩) z1).trans p0
         have GR:=fun w2 hb=>GR T w2 hb
         rw[hT] at GR
         simp only[show xs.findIdx? (fun x=>bl x.path==up)=some g from hgi,ixV] at GR
         clear hT hgi
         refine wp_region_noPanic ?_
         refine wp_region_held_drew (S:=fun w'=>w'.cell? ⟨w.heap.size,0,none⟩=some (.slice (some ⟨b0,off,none⟩) n c)/\w'.rangeAt wr.heap.size 0 [.string x.path,.slice B1 x.dims.length u1,.slice B2 x.vars.length u2,.slice B3 x.attrs.length u3]/\w'.cell? ⟨b0,off+j*4,none⟩=some (.string y.path)/\Below wr.heap.size wr w') (by kernel_rfl) ⟨k0,row4 ⟨r0,r1,r2,r3⟩,p0,(by (repeat (first|exact zJ _ _|assumption|refine yab ?_ _|refine zL ?_|refine yac ?_ (by assumption)|refine yaa ?_ _)))⟩ (fun hHeld=>?_)
         refine tRun [(0,45,some (.int .i64 (k:Int)))] hHeld (by kernel_rfl) ?_
         simp only[runA,Act.put,zB,zC,zD]
         refine tVal 1 46 (.bool true) hHeld (by kernel_rfl) (fun w' hSw=>?_) ?_
         ·simp only[zE,zF,zG,zH,zI];first|(go_simp;done)|(with_reducible rfl)|(go_simp;omega)
         simp only[Act.put,zB,zC,zD]
         refine tRun [(2,47,some (.bool true)),(3,48,some (.bool true)),(4,49,some (.bool false)),(5,50,some (.bool false))] hHeld (by kernel_rfl) ?_
         simp only[runA,Act.put,zB,zC,zD]
         refine tVal 6 51 (.pointer (some ⟨w.heap.size,0,none⟩)) hHeld (by kernel_rfl) (fun w' hSw=>?_) ?_
         ·simp only[zE,zF,zG,zH,zI];first|(go_simp;done)|(with_reducible rfl)|(go_simp;omega)
         simp only[Act.put,zB,zC,zD]
         refine tVal 7 52 (.slice (some ⟨b0,off,none⟩) n c) hHeld (by kernel_rfl) (fun w' hSw=>?_) ?_
         ·obtain⟨q1,q2,q3,q4⟩:=hSw;simp only[zE,zF,zG,zH,zI];first|(go_simp;done)|(with_reducible rfl)|(go_simp;omega)
         simp only[Act.put,zB,zC,zD]
         refine tRun [(8,53,some (.int .i64 (k:Int)))] hHeld (by kernel_rfl) ?_
         simp only[runA,Act.put,zB,zC,zD]
         refine tVal 9 54 (.int .i64 (j:Int)) hHeld (by kernel_rfl) (fun w' hSw=>?_) ?_
         ·simp only[zE,zF,zG,zH,zI];first|(go_simp;done)|(with_reducible rfl)|(go_simp;omega)
         simp only[Act.put,zB,zC,zD]
         refine tVal 10 55 (.pointer (some ⟨b0,off+j*4,none⟩)) hHeld (by kernel_rfl) (fun w' hSw=>?_) ?_
         ·simp only[zE,zF,zG,zH,zI];first|(go_simp;done)|(with_reducible rfl)|(go_simp;omega)
         simp only[Act.put,zB,zC,zD]
         refine tVal 11 56 (.pointer (some ⟨b0,off+j*4,none⟩)) hHeld (by kernel_rfl) (fun w' hSw=>?_) ?_
         ·simp only[zE,zF,zG,zH,zI];first|(go_simp;done)|(with_reducible rfl)|(go_simp;omega)
         simp only[Act.put,zB,zC,zD]
         refine tVal 12 57 (.string y.path) hHeld (by kernel_rfl) (fun w' hSw=>?_) ?_
         ·obtain⟨q1,q2,q3,q4⟩:=hSw;simp only[zE,zF,zG,zH,zI];first|(go_simp;done)|(with_reducible rfl)|(go_simp;omega)
         simp only[Act.put,zB,zC,zD]
         refine tVal 13 58 (.pointer (some ⟨wr.heap.size,0,none⟩)) hHeld (by kernel_rfl) (fun w' hSw=>?_) ?_
         ·simp only[zE,zF,zG,zH,zI];first|(go_simp;done)|(with_reducible rfl)|(go_simp;omega)
         simp only[Act.put,zB,zC,zD]
         refine tVal 14 59 (.string x.path) hHeld (by kernel_rfl) (fun w' hSw=>?_) ?_
         ·obtain⟨q1,q2,q3,q4⟩:=hSw;have q5:=q2 0 _ rfl;rw[Nat.zero_add] at q5;simp only[zE,zF,zG,zH,zI];first|(go_simp;done)|(with_reducible rfl)|(go_simp;omega)
         simp only[Act.put,zB,zC,zD]
         refine tVal 15 60 (.bool false) hHeld (by kernel_rfl) (fun w' hSw=>?_) ?_
         ·simp only[zE,zF,zG,zH,zI];first|(go_simp;done)|(with_reducible rfl)|(go_simp;omega)
         simp only[Act.put,zB,zC,zD]
         refine tRun [(16,61,some (.bool false)),(17,62,some (.bool false))] hHeld (by kernel_rfl) ?_
         simp only[runA,Act.put,zB,zC,zD]
         refine tLoad 18 63 24 (.tmp 1) w.heap.size 0 [.slice (some ⟨b0,off,none⟩) n c] hHeld (by kernel_rfl) (by kernel_rfl) rfl (fun w' hw'=>row1 hw'.1) Tryz.underlying24 rfl (by kernel_rfl) ?_
         simp only[Act.put,zB,zC,zD]
         refine tRun [(19,64,some (.string T))] hHeld (by kernel_rfl) ?_
         simp only[runA,Act.put,zB,zC,zD]
         refine tEnter 20 65 13 #[.agg #[.slice (some ⟨b0,off,none⟩) n c],.string T] (by kernel_rfl) (by kernel_rfl) (by kernel_rfl) (GR _ (HBr.out _ hHeld.2.2.2)) ?_
         rintro e w4 ⟨rfl,hb⟩
         refine⟨_,rfl,⟨(hb.cell (p:=⟨w.heap.size,0,none⟩) (World.block_lt_of_cell? _ _ hHeld.1)).trans hHeld.1,yad hHeld.2.1 hb (World.block_lt_of_cell? _ _ (hHeld.2.1 0 _ rfl)),(hb.cell (p:=⟨b0,off+j*4,none⟩) (World.block_lt_of_cell? _ _ hHeld.2.2.1)).trans hHeld.2.2.1,yac hHeld.2.2.2 hb⟩,fun hHeld=>?_⟩
         simp only[Act.put,zB,zC,zD]
         clear hb
         refine tVal 21 66 (.bool false) hHeld (by kernel_rfl) (fun w' hSw=>?_) ?_
         ·simp only[zE,zF,zG,zH,zI];first|(go_simp;done)|(with_reducible rfl)|(go_simp;omega)
         simp only[Act.put,zB,zC,zD]
         refine tRun [(22,67,some (.bool false)),(23,68,some (.bool false)),(24,69,some (.bool false))] hHeld (by kernel_rfl) ?_
         simp only[runA,Act.put,zB,zC,zD]
         refine tLoad 25 70 55 (.tmp 4) wr.heap.size 0 [.string x.path,.slice B1 x.dims.length u1,.slice B2 x.vars.length u2,.slice B3 x.attrs.length u3] hHeld (by kernel_rfl) (by kernel_rfl) rfl (fun w' hw'=>hw'.2.1) Tryz.underlying55 rfl (by kernel_rfl) ?_
         simp only[Act.put,zB,zC,zD]
         refine tEnter 26 71 14 #[.agg #[.string x.path,.slice B1 x.dims.length u1,.slice B2 x.vars.length u2,.slice B3 x.attrs.length u3]] (by kernel_rfl) (by kernel_rfl) (by kernel_rfl) (LI _ (HBr.out _ hHeld.2.2.2)) ?_
         rintro e w5 ⟨rfl,hb⟩
         refine⟨_,rfl,⟨(hb.cell (p:=⟨w.heap.size,0,none⟩) (World.block_lt_of_cell? _ _ hHeld.1)).trans hHeld.1,yad hHeld.2.1 hb (World.block_lt_of_cell? _ _ (hHeld.2.1 0 _ rfl)),(hb.cell (p:=⟨b0,off+j*4,none⟩) (World.block_lt_of_cell? _ _ hHeld.2.2.1)).trans hHeld.2.2.1,yac hHeld.2.2.2 hb⟩,fun hHeld=>?_⟩
         simp only[Act.put,zB,zC,zD]
         clear hb
         refine tRun [(27,72,some (.bool false)),(28,73,some (.bool false))] hHeld (by kernel_rfl) ?_
         simp only[runA,Act.put,zB,zC,zD]
         refine wpAnyH_done (by kernel_rfl) (tNoP ?_) _
         have b4:Below wr.heap.size wr _:=hHeld.2.2.2
         clear hHeld
         go_wp2
         go_roundw
         case rel=>exact⟨k+1,by omega,by go_num,HA2,zh (HBx.out _ (by (repeat (first|exact zJ _ _|assumption|refine yab ?_ _|refine zL ?_|refine yac ?_ (by assumption)|refine yaa ?_ _))))⟩
         case measure=>simp only[intOf];omega
 ·rw[decide_eq_false g3] at hE
  have hX:=(ykm (s:=xs) (by rw[hhd];exact fun h=>g3 (by injection h))).symm.trans hX
  subst hX
  clear HV HW HN HP hV hn hhd g3 hr hx0
  go_enter Tryz.func6,Tryz.ntmps6
  go_wp2
  go_ret
  exact⟨rfl,by (repeat (first|exact zJ _ _|assumption|refine yab ?_ _|refine zL ?_|refine yac ?_ (by assumption)|refine yaa ?_ _))⟩
end Go.Proofs.YtajmjllhdcdkmaaGreatDoor
