import Derived.Test.YtajmjllhdcdkmaaGreatDoorZ
import Derived.Test.YtajmjllhdcdkmaaGreatDoorG31
import Derived.Test.YtajmjllhdcdkmaaGreatDoorG33
set_option maxRecDepth 100000
set_option maxHeartbeats 12800000
namespace Go.Proofs.YtajmjllhdcdkmaaGreatDoor
open Go.RowKit Dg Q Num Str
theorem yh0 {o:Option (List UInt8)} {w w':World} {e:Ending} (h:ParR o w e w'):∃ (T:ByteArray) (tb:Bool),e=.returned (.tuple #[.string T,.bool tb])/\Below w.heap.size w w':=by
 cases o with
 | none=>exact⟨_,_,h.2,h.1⟩
 | some up=>obtain⟨h1,T,_,h3⟩:=h;exact⟨T,true,h3,h1⟩
def nearD (N:ByteArray):DimD:=⟨N,1,false⟩
theorem yh9 (sv:Value) (s:List GroupD) (P N:ByteArray) (w:World) (hV:VSchema w w.heap.size sv s) (hs:smallC s) (hg:∀ g ∈ s,smallG g) (hP:P.size<=4000000000) (hN:N.size<=4000000000) (hw:Ws w) :
  Calls Tryz.prog 8 #[.agg #[sv],.agg #[.int .i64 3,.string P,.string ⟨#[]⟩,.string ⟨#[]⟩,.int .i64 0,.string N,.int .i64 1,.bool false,.string ⟨#[]⟩,.int .i64 0,.slice none 0 0,.slice none 0 0,.string ⟨#[]⟩,.string ⟨#[]⟩,.slice none 0 0,.slice none 0 0,.string ⟨#[]⟩,.int .i64 0,.string ⟨#[]⟩,.slice none 0 0]] w (AppQ w (appR 3 s (addDimR s (bl P) (nearD N)))):=
 yj5 sv s P ⟨#[]⟩ ⟨#[]⟩ 0 (nearD N) ⟨#[]⟩ 0 none none none none none 0 0 0 0 0 0 0 0 0 0 ⟨#[]⟩ ⟨#[]⟩ ⟨#[]⟩ 0 ⟨#[]⟩ w hV hs hg hP hw _ (fun _=>yjb hs _ _) fun hv X B v F w2 h1 h2 h3 h4=>
  ynr X B v s F 3 P ⟨#[]⟩ ⟨#[]⟩ 0 (nearD N) _ _ w2 h1 h2 h3 h4 (yoc hv) hP ⟨rfl,(show N.size<=9223372036854775807 by omega),(show inI 1 by unfold inI;omega)⟩
theorem yjw (sv:Value) (s:List GroupD) (P N:ByteArray) (w:World) (hV:VSchema w w.heap.size sv s) (hbs:bSch 1048576 s) (hP:P.size<=1048576) (hN:N.size<=1048576) (hw:Ws w):Calls Tryz.prog 3 #[.agg #[sv],.string P,.string N] w fun e w'=>e=.returned (.bool true)/\Below w.heap.size w w':=by
 obtain⟨A,c,rfl,hAc,hA63⟩:=hV.val
 obtain⟨hs,hg⟩:=ynh hbs (Nat.le_refl _)
 obtain⟨wx,hwx⟩:∃ wx,wx=w.alloc (.cells #[.slice A s.length c] 24):=⟨_,rfl⟩
 have hx1:Below w.heap.size w wx:=by rw[hwx];(repeat (first|exact zJ _ _|assumption|refine yab ?_ _|refine zL ?_|refine yac ?_ (by assumption)|refine yaa ?_ _|refine zO ?_ (by simp<;>omega) _|refine zP ?_ (by simp<;>omega) _))
 have zx:wx.heap.size=w.heap.size+1:=by rw[hwx];simp
 have kS:Bk wx w.heap.size #[.slice A s.length c] 24:=by rw[hwx];exact Bk.new w _ _
 have up:=fun w' (hb:Below wx.heap.size wx w')=>hx1.trans (hb.mono hx1.size)
 have KV:=fun w' (hb:Below wx.heap.size wx w')=>(VL.keeps yah hV (up w' hb)).lifts yai (up w' hb).size
 have RS0:=fun (Q:ByteArray) (hQ:Q.size<=4000000000) w' (hb:Below wx.heap.size wx w')=>yk1 _ s Q N w' (KV w' hb) hs.1 hQ (hw.up (up w' hb))
 have VA:=fun w' (hb:Below wx.heap.size wx w')=>ycu _ s w' (KV w' hb) hs.1.1 (hw.up (up w' hb))
 have AW:=fun w' (hb:Below wx.heap.size wx w')=>ytl w' (hw.up (up w' hb))
 have PA0:=fun w' (hb:Below wx.heap.size wx w')=>yfm P (by omega) w' (hw.up (up w' hb))
 have AP0:=fun w' (hb:Below wx.heap.size wx w')=>yh9 _ s P N w' (KV w' hb) hs hg (by omega) (by omega) (hw.up (up w' hb))
 have HKS:=zh (show ∀ w',Below wx.heap.size wx w'->w'.cell? ⟨w.heap.size,0,none⟩=some (.slice A s.length c) from fun w' hb=>(kS.up hb).cell 0)
 have kq:=HKS.out wx (Below.refl _ _)
 have HX1:=zh hx1
 have HWS:=zh (show ∀ w',Below wx.heap.size wx w'->Ws w' from fun w' hb=>hw.up (up w' hb))
 have RS:=RS0 P (by omega)
 clear kS hV hAc hA63 hbs KV hx1 hw up
 cases hv:validB s
 ·have h0:resolveR s (bl P) (bl N)=(30,⟨#[]⟩,⟨⟨#[]⟩,0,false⟩):=by unfold resolveR;rw[hv,if_pos rfl]
  rw[h0] at RS
  simp only[rslV,dimV] at RS
  have PA:=fun w' hb=>(PA0 w' hb).mono fun e w2 (h:ParR (parentB (bl P)) w' e w2)=>yh0 h
  clear h0 hv hs hg AP0 PA0 RS0 VA HWS
  go_enter Tryz.func3,Tryz.ntmps3
  go_wp2_with fail
  rw[<- hwx]
  clear hwx
  go_wp2_with (first
   | (go_at_call 7;(with_reducible refine(AW _ (by (repeat (first|exact zJ _ _|assumption|refine yab ?_ _|refine zL ?_|refine yac ?_ (by assumption)|refine yaa ?_ _|refine zO ?_ (by simp<;>omega) _|refine zP ?_ (by simp<;>omega) _)))).mono ?_);rintro e w9 ⟨rfl,hb⟩;have b9:Below wx.heap.size wx w9:=yac (by (repeat (first|exact zJ _ _|assumption|refine yab ?_ _|refine zL ?_|refine yac ?_ (by assumption)|refine yaa ?_ _|refine zO ?_ (by simp<;>omega) _|refine zP ?_ (by simp<;>omega) _))) hb;have ks9:w9.cell? ⟨w.heap.size,0,none⟩=some (.slice A s.length c):=HKS.out w9 b9;clear hb)
   | (go_at_call 5;(with_reducible refine(PA _ (by (repeat (first|exact zJ _ _|assumption|refine yab ?_ _|refine zL ?_|refine yac ?_ (by assumption)|refine yaa ?_ _|refine zO ?_ (by simp<;>omega) _|refine zP ?_ (by simp<;>omega) _)))).mono ?_);rintro e w2 ⟨T,tb,rfl,hb⟩;have b2:Below wx.heap.size wx w2:=yac (by (repeat (first|exact zJ _ _|assumption|refine yab ?_ _|refine zL ?_|refine yac ?_ (by assumption)|refine yaa ?_ _|refine zO ?_ (by simp<;>omega) _|refine zP ?_ (by simp<;>omega) _))) hb;have ks2:w2.cell? ⟨w.heap.size,0,none⟩=some (.slice A s.length c):=HKS.out w2 b2;clear hb)
   | (go_at_call 4;(with_reducible refine(RS _ (by (repeat (first|exact zJ _ _|assumption|refine yab ?_ _|refine zL ?_|refine yac ?_ (by assumption)|refine yaa ?_ _|refine zO ?_ (by simp<;>omega) _|refine zP ?_ (by simp<;>omega) _)))).mono ?_);rintro e w1 ⟨rfl,hb⟩;have b1:Below wx.heap.size wx w1:=yac (by (repeat (first|exact zJ _ _|assumption|refine yab ?_ _|refine zL ?_|refine yac ?_ (by assumption)|refine yaa ?_ _|refine zO ?_ (by simp<;>omega) _|refine zP ?_ (by simp<;>omega) _))) hb;have ks1:w1.cell? ⟨w.heap.size,0,none⟩=some (.slice A s.length c):=HKS.out w1 b1;clear hb))
  go_ret
  exact⟨rfl,HX1.out.trans (b9.mono HX1.out.size)⟩
 ·rw[hv] at VA
  cases hr:resolveB s (bl N) ((bl P).length+1) (bl P) with
  | none=>
   have h0:resolveR s (bl P) (bl N)=(31,⟨#[]⟩,⟨⟨#[]⟩,0,false⟩):=by unfold resolveR;rw[hv,if_neg (by decide),hr]
   rw[h0] at RS
   simp only[rslV,dimV] at RS
   have PA:=fun w' hb=>(PA0 w' hb).mono fun e w2 (h:ParR (parentB (bl P)) w' e w2)=>yh0 h
   clear h0 hv hs hg AP0 PA0 RS0 hr HWS
   go_enter Tryz.func3,Tryz.ntmps3
   go_wp2_with fail
   rw[<- hwx]
   clear hwx
   go_wp2_with (first
    | (go_at_call 7;(with_reducible refine(AW _ (by (repeat (first|exact zJ _ _|assumption|refine yab ?_ _|refine zL ?_|refine yac ?_ (by assumption)|refine yaa ?_ _|refine zO ?_ (by simp<;>omega) _|refine zP ?_ (by simp<;>omega) _)))).mono ?_);rintro e w9 ⟨rfl,hb⟩;have b9:Below wx.heap.size wx w9:=yac (by (repeat (first|exact zJ _ _|assumption|refine yab ?_ _|refine zL ?_|refine yac ?_ (by assumption)|refine yaa ?_ _|refine zO ?_ (by simp<;>omega) _|refine zP ?_ (by simp<;>omega) _))) hb;have ks9:w9.cell? ⟨w.heap.size,0,none⟩=some (.slice A s.length c):=HKS.out w9 b9;clear hb)
    | (go_at_call 6;(with_reducible refine(VA _ (by (repeat (first|exact zJ _ _|assumption|refine yab ?_ _|refine zL ?_|refine yac ?_ (by assumption)|refine yaa ?_ _|refine zO ?_ (by simp<;>omega) _|refine zP ?_ (by simp<;>omega) _)))).mono ?_);rintro e w8 ⟨rfl,hb⟩;have b8:Below wx.heap.size wx w8:=yac (by (repeat (first|exact zJ _ _|assumption|refine yab ?_ _|refine zL ?_|refine yac ?_ (by assumption)|refine yaa ?_ _|refine zO ?_ (by simp<;>omega) _|refine zP ?_ (by simp<;>omega) _))) hb;have ks8:w8.cell? ⟨w.heap.size,0,none⟩=some (.slice A s.length c):=HKS.out w8 b8;clear hb)
    | (go_at_call 5;(with_reducible refine(PA _ (by (repeat (first|exact zJ _ _|assumption|refine yab ?_ _|refine zL ?_|refine yac ?_ (by assumption)|refine yaa ?_ _|refine zO ?_ (by simp<;>omega) _|refine zP ?_ (by simp<;>omega) _)))).mono ?_);rintro e w2 ⟨T,tb,rfl,hb⟩;have b2:Below wx.heap.size wx w2:=yac (by (repeat (first|exact zJ _ _|assumption|refine yab ?_ _|refine zL ?_|refine yac ?_ (by assumption)|refine yaa ?_ _|refine zO ?_ (by simp<;>omega) _|refine zP ?_ (by simp<;>omega) _))) hb;have ks2:w2.cell? ⟨w.heap.size,0,none⟩=some (.slice A s.length c):=HKS.out w2 b2;clear hb)
    | (go_at_call 4;(with_reducible refine(RS _ (by (repeat (first|exact zJ _ _|assumption|refine yab ?_ _|refine zL ?_|refine yac ?_ (by assumption)|refine yaa ?_ _|refine zO ?_ (by simp<;>omega) _|refine zP ?_ (by simp<;>omega) _)))).mono ?_);rintro e w1 ⟨rfl,hb⟩;have b1:Below wx.heap.size wx w1:=yac (by (repeat (first|exact zJ _ _|assumption|refine yab ?_ _|refine zL ?_|refine yac ?_ (by assumption)|refine yaa ?_ _|refine zO ?_ (by simp<;>omega) _|refine zP ?_ (by simp<;>omega) _))) hb;have ks1:w1.cell? ⟨w.heap.size,0,none⟩=some (.slice A s.length c):=HKS.out w1 b1;clear hb))
   go_ret
   exact⟨rfl,HX1.out.trans (b9.mono HX1.out.size)⟩
  | some gd=>
   obtain⟨g,d⟩:=gd
   obtain⟨x,y,hx,hy,hyn⟩:=ycy hr
   have hyn:=ye1 hyn
   have e1:pathAt s g=x.path:=by unfold pathAt;rw[hx];rfl
   have e2:dimAt s (g,d)=y:=by unfold dimAt dimsAt;rw[hx];show (x.dims[d]?).getD _=y;rw[hy];rfl
   have h0:resolveR s (bl P) (bl N)=(0,x.path,y):=by unfold resolveR;rw[hv,if_neg (by decide),hr];show (0,pathAt s g,dimAt s (g,d))=_;rw[e1,e2]
   rw[h0] at RS
   simp only[rslV,dimV] at RS
   rw[hyn] at RS
   by_cases he:bl x.path=bl P
   ·have hxp:=ye1 he
    have h1:=ys2 (y:=nearD N) hv hr hx he rfl
    rw[h1] at AP0
    have h2:appR 3 s (32,s)=(32,[]):=by unfold appR;rw[hv,if_neg (by decide),if_pos (show (32:Int)≠0 by decide)]
    rw[h2] at AP0
    have AP:=fun w' hb=>(AP0 w' hb).mono fun e w2 (h:AppQ w' (32,[]) e w2)=>(show ∃ A5 c5,e=.returned (.tuple #[.agg #[.slice A5 0 c5],.int .i64 32])/\Below w'.heap.size w' w2 by
     obtain⟨v,F,h1,h2,_,h4⟩:=h
     obtain⟨A5,c5,rfl⟩:=h2.val
     exact⟨A5,c5,h1,h4⟩)
    have PA:=fun w' hb=>(PA0 w' hb).mono fun e w2 (h:ParR (parentB (bl P)) w' e w2)=>yh0 h
    rw[hxp] at RS
    have hself:(P.toList==P.toList)=true:=beq_self_eq_true _
    clear h0 hv hs hg AP0 PA0 RS0 hr HWS h1 h2 he hxp VA e1 e2 hx hy hyn
    go_enter Tryz.func3,Tryz.ntmps3
    go_wp2_with fail
    rw[<- hwx]
    clear hwx
    go_wp2_with (first
     | (go_at_call 7;(with_reducible refine(AW _ (by (repeat (first|exact zJ _ _|assumption|refine yab ?_ _|refine zL ?_|refine yac ?_ (by assumption)|refine yaa ?_ _|refine zO ?_ (by simp<;>omega) _|refine zP ?_ (by simp<;>omega) _)))).mono ?_);rintro e w9 ⟨rfl,hb⟩;have b9:Below wx.heap.size wx w9:=yac (by (repeat (first|exact zJ _ _|assumption|refine yab ?_ _|refine zL ?_|refine yac ?_ (by assumption)|refine yaa ?_ _|refine zO ?_ (by simp<;>omega) _|refine zP ?_ (by simp<;>omega) _))) hb;have ks9:w9.cell? ⟨w.heap.size,0,none⟩=some (.slice A s.length c):=HKS.out w9 b9;clear hb)
     | (go_at_call 8;(with_reducible refine(AP _ (by (repeat (first|exact zJ _ _|assumption|refine yab ?_ _|refine zL ?_|refine yac ?_ (by assumption)|refine yaa ?_ _|refine zO ?_ (by simp<;>omega) _|refine zP ?_ (by simp<;>omega) _)))).mono ?_);rintro e w5 ⟨A5,c5,rfl,hb⟩;have b5:Below wx.heap.size wx w5:=yac (by (repeat (first|exact zJ _ _|assumption|refine yab ?_ _|refine zL ?_|refine yac ?_ (by assumption)|refine yaa ?_ _|refine zO ?_ (by simp<;>omega) _|refine zP ?_ (by simp<;>omega) _))) hb;have ks5:w5.cell? ⟨w.heap.size,0,none⟩=some (.slice A s.length c):=HKS.out w5 b5;clear hb)
     | (go_at_call 5;(with_reducible refine(PA _ (by (repeat (first|exact zJ _ _|assumption|refine yab ?_ _|refine zL ?_|refine yac ?_ (by assumption)|refine yaa ?_ _|refine zO ?_ (by simp<;>omega) _|refine zP ?_ (by simp<;>omega) _)))).mono ?_);rintro e w2 ⟨T,tb,rfl,hb⟩;have b2:Below wx.heap.size wx w2:=yac (by (repeat (first|exact zJ _ _|assumption|refine yab ?_ _|refine zL ?_|refine yac ?_ (by assumption)|refine yaa ?_ _|refine zO ?_ (by simp<;>omega) _|refine zP ?_ (by simp<;>omega) _))) hb;have ks2:w2.cell? ⟨w.heap.size,0,none⟩=some (.slice A s.length c):=HKS.out w2 b2;clear hb)
     | (go_at_call 4;(with_reducible refine(RS _ (by (repeat (first|exact zJ _ _|assumption|refine yab ?_ _|refine zL ?_|refine yac ?_ (by assumption)|refine yaa ?_ _|refine zO ?_ (by simp<;>omega) _|refine zP ?_ (by simp<;>omega) _)))).mono ?_);rintro e w1 ⟨rfl,hb⟩;have b1:Below wx.heap.size wx w1:=yac (by (repeat (first|exact zJ _ _|assumption|refine yab ?_ _|refine zL ?_|refine yac ?_ (by assumption)|refine yaa ?_ _|refine zO ?_ (by simp<;>omega) _|refine zP ?_ (by simp<;>omega) _))) hb;have ks1:w1.cell? ⟨w.heap.size,0,none⟩=some (.slice A s.length c):=HKS.out w1 b1;clear hb))
    go_ret
    exact⟨rfl,HX1.out.trans (b9.mono HX1.out.size)⟩
   ·obtain⟨upp,hu1,hu2⟩:=res_up hr hx he
    obtain⟨T,hT⟩:∃ T:ByteArray,bl T=upp:=⟨⟨upp.toArray⟩,rfl⟩
    subst hT
    have hTl:T.size<=4000000000:=by
     have h9:=yne hu1
     rw[yag,yag] at h9
     omega
    have RS2:=RS0 T hTl
    have h3:resolveR s (bl T) (bl N)=(0,x.path,y):=by unfold resolveR;rw[hv,if_neg (by decide),hu2];show (0,pathAt s g,dimAt s (g,d))=_;rw[e1,e2]
    rw[h3] at RS2
    simp only[rslV,dimV] at RS2
    rw[hyn] at RS2
    rw[hu1] at PA0
    have PA2:=fun w' hb=>(PA0 w' hb).mono fun e w2 (h:ParR (some (bl T)) w' e w2)=>(show e=.returned (.tuple #[.string T,.bool true])/\Below w'.heap.size w' w2 by
     obtain⟨h1,T',h2,h3⟩:=h
     rw[ye1 h2.symm]
     exact⟨h3,h1⟩)
    have hneq:(x.path.toList==P.toList)=false:=by
     rw[beq_eq_false_iff_ne,Lib.toList_data,Lib.toList_data]
     exact he
    have hself:(x.path.toList==x.path.toList)=true:=beq_self_eq_true _
    have hself2:(N.toList==N.toList)=true:=beq_self_eq_true _
    have hself3:(y.size==y.size)=true:=beq_self_eq_true _
    have hself4:(y.opn==y.opn)=true:=beq_self_eq_true _
    obtain⟨r,hR⟩:∃ r,addDimR s (bl P) (nearD N)=r:=⟨_,rfl⟩
    obtain⟨rc,rs⟩:=r
    obtain⟨ap,hap⟩:∃ ap,appR 3 s (rc,rs)=ap:=⟨_,rfl⟩
    obtain⟨ac,asx⟩:=ap
    have hsm:=yjb hs (bl P) (nearD N)
    rw[hR] at AP0 hsm
    rw[hap] at AP0
    unfold appR at hap
    rw[hv,if_neg (by decide)] at hap
    by_cases hc:ac=0
    ·subst hc
     have hz:rc=0/\asx=rs/\validB rs=true:=by
      by_cases h1:rc=0
      ·rw[if_neg (fun h=>h h1)] at hap
       by_cases h2:checkedB 3 rs=0
       ·rw[if_neg (fun h=>h h2)] at hap
        injection hap with _ h3
        refine⟨h1,h3.symm,?_⟩
        unfold checkedB at h2
        split at h2
        ·cases h2
        ·split at h2
         ·assumption
         ·cases h2
       ·rw[if_pos h2] at hap
        injection hap with h3 _
        exact absurd h3 h2
      ·rw[if_pos h1] at hap
       injection hap with h3 _
       exact absurd h3 h1
     obtain⟨rfl,rfl,hvr⟩:=hz
     have hus:=yqc hR hvr
     have hun:bl (nearD N).name=bl N:=rfl
     rw[hun] at hus
     have AP:=fun w' hb=>(AP0 w' hb).mono fun e w2 (h:AppQ w' (0,asx) e w2)=>(show ∃ A5 c5,e=.returned (.tuple #[.agg #[.slice A5 asx.length c5],.int .i64 0])/\VSchema w2 w2.heap.size (.slice A5 asx.length c5) asx/\Below w'.heap.size w' w2 by
      obtain⟨v,F,h1,h2,_,h4⟩:=h
      obtain⟨A5,c5,rfl⟩:=h2.val
      exact⟨A5,c5,h1,h2.schema,h4⟩)
     have US:=fun (v:Value) (w5 w':World) (hd:VSchema w5 w5.heap.size v asx) (hb5:Below w5.heap.size w5 w') (hb:Below wx.heap.size wx w')=>(ypt v asx P N w' ((VL.keeps yah hd hb5).lifts yai hb5.size) hsm.1 (HWS.out w' hb)).mono fun e w2 (h:∃ u,e=.returned (.tuple #[u,.int .i64 (usersR asx (bl P) (bl N)).1])/\RowC w' w2 u (usersR asx (bl P) (bl N)).2)=>(show ∃ A6 c6,e=.returned (.tuple #[.slice A6 0 c6,.int .i64 0])/\Below w'.heap.size w' w2 by
      obtain⟨u,h1,h2⟩:=h
      rw[hus] at h1 h2
      rcases h2.1.2 with ⟨rfl,_⟩|⟨g,cap,cur,rfl,_⟩
      ·exact⟨_,_,h1,h2.2⟩
      ·exact⟨_,_,h1,h2.2⟩)
     have HUS:=zh US
     clear US h0 hv hs hg AP0 PA0 RS0 hr HWS he VA e1 e2 hap hR hsm hus hun hu1 hu2 h3 hvr hx hy hyn
     go_enter Tryz.func3,Tryz.ntmps3
     go_wp2_with fail
     rw[<- hwx]
     clear hwx
     go_wp2_with (first
      | (go_at_call 7;(with_reducible refine(AW _ (by (repeat (first|exact zJ _ _|assumption|refine yab ?_ _|refine zL ?_|refine yac ?_ (by assumption)|refine yaa ?_ _|refine zO ?_ (by simp<;>omega) _|refine zP ?_ (by simp<;>omega) _)))).mono ?_);rintro e w9 ⟨rfl,hb⟩;have b9:Below wx.heap.size wx w9:=yac (by (repeat (first|exact zJ _ _|assumption|refine yab ?_ _|refine zL ?_|refine yac ?_ (by assumption)|refine yaa ?_ _|refine zO ?_ (by simp<;>omega) _|refine zP ?_ (by simp<;>omega) _))) hb;have ks9:w9.cell? ⟨w.heap.size,0,none⟩=some (.slice A s.length c):=HKS.out w9 b9;clear hb)
      | (go_at_call 9;(with_reducible refine(HUS.out (.slice A5 asx.length c5) w5 _ HD5.out (by (repeat (first|exact zJ _ _|assumption|refine yab ?_ _|refine zL ?_|refine yac ?_ (by assumption)|refine yaa ?_ _|refine zO ?_ (by simp<;>omega) _|refine zP ?_ (by simp<;>omega) _))) (by (repeat (first|exact zJ _ _|assumption|refine yab ?_ _|refine zL ?_|refine yac ?_ (by assumption)|refine yaa ?_ _|refine zO ?_ (by simp<;>omega) _|refine zP ?_ (by simp<;>omega) _)))).mono ?_);rintro e w6 ⟨A6,c6,rfl,hb⟩;have b6:Below wx.heap.size wx w6:=yac (by (repeat (first|exact zJ _ _|assumption|refine yab ?_ _|refine zL ?_|refine yac ?_ (by assumption)|refine yaa ?_ _|refine zO ?_ (by simp<;>omega) _|refine zP ?_ (by simp<;>omega) _))) hb;have ks6:w6.cell? ⟨w.heap.size,0,none⟩=some (.slice A s.length c):=HKS.out w6 b6;clear hb)
      | (go_at_call 8;(with_reducible refine(AP _ (by (repeat (first|exact zJ _ _|assumption|refine yab ?_ _|refine zL ?_|refine yac ?_ (by assumption)|refine yaa ?_ _|refine zO ?_ (by simp<;>omega) _|refine zP ?_ (by simp<;>omega) _)))).mono ?_);rintro e w5 ⟨A5,c5,rfl,hd5,hb⟩;have b5:Below wx.heap.size wx w5:=yac (by (repeat (first|exact zJ _ _|assumption|refine yab ?_ _|refine zL ?_|refine yac ?_ (by assumption)|refine yaa ?_ _|refine zO ?_ (by simp<;>omega) _|refine zP ?_ (by simp<;>omega) _))) hb;have ks5:w5.cell? ⟨w.heap.size,0,none⟩=some (.slice A s.length c):=HKS.out w5 b5;have HD5:=zh hd5;clear hd5;clear hb)
      | (go_at_call 4;(with_reducible refine(RS2 _ (by (repeat (first|exact zJ _ _|assumption|refine yab ?_ _|refine zL ?_|refine yac ?_ (by assumption)|refine yaa ?_ _|refine zO ?_ (by simp<;>omega) _|refine zP ?_ (by simp<;>omega) _)))).mono ?_);rintro e w3 ⟨rfl,hb⟩;have b3:Below wx.heap.size wx w3:=yac (by (repeat (first|exact zJ _ _|assumption|refine yab ?_ _|refine zL ?_|refine yac ?_ (by assumption)|refine yaa ?_ _|refine zO ?_ (by simp<;>omega) _|refine zP ?_ (by simp<;>omega) _))) hb;have ks3:w3.cell? ⟨w.heap.size,0,none⟩=some (.slice A s.length c):=HKS.out w3 b3;have kd:=KD.out.up hb;have zl3:w1.heap.size<w3.heap.size:=kd.lt;have zs3:w.heap.size<w3.heap.size:=(by have:=b3.size;omega);have kd0:w3.cell? ⟨w1.heap.size,0,none⟩=some (.string N):=kd.cell 0;have kd1:w3.cell? ⟨w1.heap.size,1,none⟩=some (.int .i64 y.size):=kd.cell 1;have kd2:w3.cell? ⟨w1.heap.size,2,none⟩=some (.bool y.opn):=kd.cell 2;clear kd;clear hb)
      | (go_at_call 5;(with_reducible refine(PA2 _ (by (repeat (first|exact zJ _ _|assumption|refine yab ?_ _|refine zL ?_|refine yac ?_ (by assumption)|refine yaa ?_ _|refine zO ?_ (by simp<;>omega) _|refine zP ?_ (by simp<;>omega) _)))).mono ?_);rintro e w2 ⟨rfl,hb⟩;have b2:Below wx.heap.size wx w2:=yac (by (repeat (first|exact zJ _ _|assumption|refine yab ?_ _|refine zL ?_|refine yac ?_ (by assumption)|refine yaa ?_ _|refine zO ?_ (by simp<;>omega) _|refine zP ?_ (by simp<;>omega) _))) hb;have ks2:w2.cell? ⟨w.heap.size,0,none⟩=some (.slice A s.length c):=HKS.out w2 b2;have KD:=zh ((Bk.new w1 #[.string N,.int .i64 y.size,.bool y.opn] 26).up hb);clear hb)
      | (go_at_call 4;(with_reducible refine(RS _ (by (repeat (first|exact zJ _ _|assumption|refine yab ?_ _|refine zL ?_|refine yac ?_ (by assumption)|refine yaa ?_ _|refine zO ?_ (by simp<;>omega) _|refine zP ?_ (by simp<;>omega) _)))).mono ?_);rintro e w1 ⟨rfl,hb⟩;have b1:Below wx.heap.size wx w1:=yac (by (repeat (first|exact zJ _ _|assumption|refine yab ?_ _|refine zL ?_|refine yac ?_ (by assumption)|refine yaa ?_ _|refine zO ?_ (by simp<;>omega) _|refine zP ?_ (by simp<;>omega) _))) hb;have ks1:w1.cell? ⟨w.heap.size,0,none⟩=some (.slice A s.length c):=HKS.out w1 b1;clear hb))
     go_ret
     exact⟨rfl,HX1.out.trans (b9.mono HX1.out.size)⟩
    ·have AP:=fun w' hb=>(AP0 w' hb).mono fun e w2 (h:AppQ w' (ac,asx) e w2)=>(show ∃ A5 n5 c5,e=.returned (.tuple #[.agg #[.slice A5 n5 c5],.int .i64 ac])/\Below w'.heap.size w' w2 by
      obtain⟨v,F,h1,h2,_,h4⟩:=h
      obtain⟨A5,c5,rfl⟩:=h2.val
      exact⟨A5,_,c5,h1,h4⟩)
     have hcb:(ac==0)=false:=by rw[beq_eq_false_iff_ne];exact hc
     clear h0 hv hs hg AP0 PA0 RS0 hr HWS he VA e1 e2 hap hR hsm hu1 hu2 h3 hx hy hyn
     go_enter Tryz.func3,Tryz.ntmps3
     go_wp2_with fail
     rw[<- hwx]
     clear hwx
     go_wp2_with (first
      | (go_at_call 7;(with_reducible refine(AW _ (by (repeat (first|exact zJ _ _|assumption|refine yab ?_ _|refine zL ?_|refine yac ?_ (by assumption)|refine yaa ?_ _|refine zO ?_ (by simp<;>omega) _|refine zP ?_ (by simp<;>omega) _)))).mono ?_);rintro e w9 ⟨rfl,hb⟩;have b9:Below wx.heap.size wx w9:=yac (by (repeat (first|exact zJ _ _|assumption|refine yab ?_ _|refine zL ?_|refine yac ?_ (by assumption)|refine yaa ?_ _|refine zO ?_ (by simp<;>omega) _|refine zP ?_ (by simp<;>omega) _))) hb;have ks9:w9.cell? ⟨w.heap.size,0,none⟩=some (.slice A s.length c):=HKS.out w9 b9;clear hb)
      | (go_at_call 8;(with_reducible refine(AP _ (by (repeat (first|exact zJ _ _|assumption|refine yab ?_ _|refine zL ?_|refine yac ?_ (by assumption)|refine yaa ?_ _|refine zO ?_ (by simp<;>omega) _|refine zP ?_ (by simp<;>omega) _)))).mono ?_);rintro e w5 ⟨A5,n5,c5,rfl,hb⟩;have b5:Below wx.heap.size wx w5:=yac (by (repeat (first|exact zJ _ _|assumption|refine yab ?_ _|refine zL ?_|refine yac ?_ (by assumption)|refine yaa ?_ _|refine zO ?_ (by simp<;>omega) _|refine zP ?_ (by simp<;>omega) _))) hb;have ks5:w5.cell? ⟨w.heap.size,0,none⟩=some (.slice A s.length c):=HKS.out w5 b5;clear hb)
      | (go_at_call 4;(with_reducible refine(RS2 _ (by (repeat (first|exact zJ _ _|assumption|refine yab ?_ _|refine zL ?_|refine yac ?_ (by assumption)|refine yaa ?_ _|refine zO ?_ (by simp<;>omega) _|refine zP ?_ (by simp<;>omega) _)))).mono ?_);rintro e w3 ⟨rfl,hb⟩;have b3:Below wx.heap.size wx w3:=yac (by (repeat (first|exact zJ _ _|assumption|refine yab ?_ _|refine zL ?_|refine yac ?_ (by assumption)|refine yaa ?_ _|refine zO ?_ (by simp<;>omega) _|refine zP ?_ (by simp<;>omega) _))) hb;have ks3:w3.cell? ⟨w.heap.size,0,none⟩=some (.slice A s.length c):=HKS.out w3 b3;have kd:=KD.out.up hb;have zl3:w1.heap.size<w3.heap.size:=kd.lt;have zs3:w.heap.size<w3.heap.size:=(by have:=b3.size;omega);have kd0:w3.cell? ⟨w1.heap.size,0,none⟩=some (.string N):=kd.cell 0;have kd1:w3.cell? ⟨w1.heap.size,1,none⟩=some (.int .i64 y.size):=kd.cell 1;have kd2:w3.cell? ⟨w1.heap.size,2,none⟩=some (.bool y.opn):=kd.cell 2;clear kd;clear hb)
      | (go_at_call 5;(with_reducible refine(PA2 _ (by (repeat (first|exact zJ _ _|assumption|refine yab ?_ _|refine zL ?_|refine yac ?_ (by assumption)|refine yaa ?_ _|refine zO ?_ (by simp<;>omega) _|refine zP ?_ (by simp<;>omega) _)))).mono ?_);rintro e w2 ⟨rfl,hb⟩;have b2:Below wx.heap.size wx w2:=yac (by (repeat (first|exact zJ _ _|assumption|refine yab ?_ _|refine zL ?_|refine yac ?_ (by assumption)|refine yaa ?_ _|refine zO ?_ (by simp<;>omega) _|refine zP ?_ (by simp<;>omega) _))) hb;have ks2:w2.cell? ⟨w.heap.size,0,none⟩=some (.slice A s.length c):=HKS.out w2 b2;have KD:=zh ((Bk.new w1 #[.string N,.int .i64 y.size,.bool y.opn] 26).up hb);clear hb)
      | (go_at_call 4;(with_reducible refine(RS _ (by (repeat (first|exact zJ _ _|assumption|refine yab ?_ _|refine zL ?_|refine yac ?_ (by assumption)|refine yaa ?_ _|refine zO ?_ (by simp<;>omega) _|refine zP ?_ (by simp<;>omega) _)))).mono ?_);rintro e w1 ⟨rfl,hb⟩;have b1:Below wx.heap.size wx w1:=yac (by (repeat (first|exact zJ _ _|assumption|refine yab ?_ _|refine zL ?_|refine yac ?_ (by assumption)|refine yaa ?_ _|refine zO ?_ (by simp<;>omega) _|refine zP ?_ (by simp<;>omega) _))) hb;have ks1:w1.cell? ⟨w.heap.size,0,none⟩=some (.slice A s.length c):=HKS.out w1 b1;clear hb))
     go_ret
     exact⟨rfl,HX1.out.trans (b9.mono HX1.out.size)⟩
end Go.Proofs.YtajmjllhdcdkmaaGreatDoor
