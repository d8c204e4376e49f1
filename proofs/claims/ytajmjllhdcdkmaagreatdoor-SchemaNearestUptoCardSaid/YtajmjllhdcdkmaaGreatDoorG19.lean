import Derived.Test.YtajmjllhdcdkmaaGreatDoorZ
import Derived.Test.YtajmjllhdcdkmaaGreatDoorG13
import Derived.Test.YtajmjllhdcdkmaaGreatDoorG11
import Derived.StillTailTactics
set_option maxRecDepth 100000
set_option maxHeartbeats 12800000
namespace Go.Proofs.YtajmjllhdcdkmaaGreatDoor
open Go.RowKit Dg Q Num Str
theorem yie (S:ByteArray) (hs:S.size<=9223372036854775807) (w:World) (hw:Wf w):Calls Tryz.prog 86 #[.string S] w (GiveU w (punit (bl S))):=by
 have sb:(S.size:Int)<=9223372036854775807:=by omega
 have k0:=zh (Bk.new w u0C 134)
 have b0:=zh (show Below w.heap.size w (w.alloc (.cells u0C 134)) from(Below.refl _ w).alloc (Nat.le_refl _) _)
 obtain⟨R,hR⟩:∃ R,punit (bl S)=R:=⟨_,rfl⟩
 rw[hR]
 unfold punit at hR
 rw[yag] at hR
 by_cases hl:1000<S.size
 ·rw[if_pos hl] at hR
  subst hR
  have hl':(1000:Int)<(S.size:Int):=by omega
  clear hl
  clear k0 b0
  go_enter Tryz.func86,Tryz.ntmps86
  go_wp2
  refine bodyPost_ret (v:=.tuple #[.agg u0C,.int .i64 4]) (by simp[results,Tryz.results86,go_sem,u0C]) rfl ⟨rfl,by (repeat (first|exact zJ _ _|assumption|refine yab ?_ _|refine zL ?_|refine yac ?_ (by assumption)|refine yaa ?_ _))⟩
 ·rw[if_neg hl] at hR
  have hl':¬(1000:Int)<(S.size:Int):=by omega
  have FQ:=fun w' (hb:Below w.heap.size w w')=>ykq S (by omega) w' (hw.up hb)
  clear hl
  cases hp:pfac (S.size+1) 1 [] (bl S) with
  | none=>
   rw[hp] at hR FQ
   subst hR
   unfold FacQ at FQ
   dsimp only at FQ
   go_enter Tryz.func86,Tryz.ntmps86
   go_wp2_with (go_at_call 125;refine(FQ _ b0.out).mono ?_;rintro e w1 ⟨rfl,hb⟩;have k1:=zh (k0.out.up hb);have b1:=zh (yac b0.out hb);obtain⟨z0,z1,z2,z3,z4,z5,z6,z7,z8⟩:=yc4 k1.out;obtain⟨f0,f1,f2,f3,f4,f5,f6,f7,f8⟩:=k1.out.frozen9;clear hb)
   refine bodyPost_ret (v:=.tuple #[.agg u0C,.int .i64 10]) (by simp[results,Tryz.results86,go_sem,u0C,z0,z1,z2,z3,z4,z5,z6,z7,z8]) rfl ⟨rfl,yb9 b1.out (Nat.le_refl _)⟩
  | some xs=>
   rw[hp] at hR FQ
   obtain⟨hgood,hne⟩:=ygx (fun x hx=>absurd hx (by simp)) hp
   unfold FacQ at FQ
   dsimp only at FQ hR
   have HR:=zh hR
   have HG:=zh hgood
   have hn0:0<xs.length:=List.length_pos_iff.2 hne
   clear hp hR hgood hne sb
   have hS:S.size<=1000:=by omega
   have sb:(S.size:Int)<=1000:=by omega
   clear hl'
   have W1:=fun (w1:World) v (hb:Below (w.alloc (.cells u0C 134)).heap.size (w.alloc (.cells u0C 134)) w1) (ho:w1.ownsRow (w.alloc (.cells u0C 134)).heap.size 174 13 v xs.length (xs.flatMap PF.L))=>(show PA1 w w1 v xs from⟨k0.out.up hb,by simpa using ho,yac b0.out hb⟩)
   go_enter Tryz.func86,Tryz.ntmps86
   go_wp2_with (go_at_call 125;refine(FQ _ b0.out).mono ?_;rintro e w1 ⟨v,rfl,ho,hb⟩;have k1:=zh (W1 w1 v hb ho);obtain⟨gl,cap,rfl,hgl,hgb,hcap⟩:=yol k1.out.2.1 hn0;have hn63:xs.length<=9223372036854775807:=ytb k1.out.2.1;clear hb ho)
   have k1':=zh k1.out
   clear k1 W1 FQ
   go_loopw [31] (fun i wr=>∃ k:Nat,k<=xs.length/\i=.int .i64 (k:Int)/\Hid ((xs.take k).any (fun x=>x.s.off != [48]&&(decide (1<xs.length)||!x.bare))=false)/\Hid (PA1 w wr (.slice (some ⟨gl,0,none⟩) xs.length cap) xs)) (fun i _=>(xs.length - intOf i).toNat)
   case atStart=>exact⟨0,Nat.zero_le _,rfl,zh rfl,k1'⟩
   case round=>
    obtain⟨k,hk,rfl,hA,hF⟩:=hrel
    clear k1' k0 b0
    by_cases hkn:k=xs.length
    ·subst hkn
     rw[List.take_length] at hA
     have hgl2:gl<wr.heap.size:=ynx hF.out.2.1
     have hl0:w.heap.size<wr.heap.size:=hF.out.1.lt
     by_cases h12:12<xs.length
     ·have hR:=HR.out
      rw[yr4 hA.out h12] at hR
      subst hR
      have h12':(12:Int)<(xs.length:Int):=by omega
      obtain⟨z0,z1,z2,z3,z4,z5,z6,z7,z8⟩:=yc4 hF.out.1;obtain⟨f0,f1,f2,f3,f4,f5,f6,f7,f8⟩:=Bk.frozen9 hF.out.1
      clear hA h12
      go_wp2
      refine bodyPost_ret (v:=.tuple #[.agg u0C,.int .i64 4]) (by simp[results,Tryz.results86,go_sem,u0C,z0,z1,z2,z3,z4,z5,z6,z7,z8]) rfl ⟨rfl,yb9 hF.out.2.2 (Nat.le_refl _)⟩
     ·have h12':¬(12:Int)<(xs.length:Int):=by omega
      obtain⟨x0,hx0⟩:∃ x,xs[0]?=some x:=⟨_,List.getElem?_eq_getElem hn0⟩
      have HX0:=zh hx0
      obtain⟨⟨nX,fX,o,bX,⟨v0,v1,v2,v3,v4,v5,v6⟩⟩,eX,brX⟩:=x0
      obtain⟨_,_,c2,_⟩:=ygc (hF.out.2.1) hx0
      obtain⟨OB,hOB⟩:∃ M:ByteArray,(⟨o.toArray⟩:ByteArray)=M:=⟨_,rfl⟩
      have hob:o=bl OB:=by rw[<- hOB];rfl
      rw[hOB,Nat.zero_mul,Nat.zero_add] at c2
      subst hob
      have h0':(0:Int)<(xs.length:Int):=by omega
      have I1:=fun w'=>yls 1 (by decide) w'
      obtain⟨q1,hq1⟩:∃ q,pprod (xs.take 0)=q:=⟨_,rfl⟩
      rw[show ((1:Nat):Rat)=q1 from hq1] at I1
      have HQ1:=zh hq1
      have PS:=fun w2 A c A' c' (hb:Below (wr.alloc (.cells (unC ⟨#[49]⟩ OB ⟨0,0,0,0,0,0,0⟩) 134)).heap.size (wr.alloc (.cells (unC ⟨#[49]⟩ OB ⟨0,0,0,0,0,0,0⟩) 134)) w2) hF'=>PU.start (w2:=w2) (q:=q1) (A:=A) (c:=c) (A':=A') (c':=c') hF.out hb hF'
      have HE:=fun h=>ysr hA.out h12 h HX0.out
      have HPE:=fun k x hx he=>yt1 (k:=k) (x:=x) hA.out h12 hx he
      clear hx0 hOB hA hF h12 hq1
      go_wp2_with (go_at_call 126;(refine(I1 _).mono ?_);rintro e w2 ⟨v,rfl,⟨A3,c3,A4,c4,rfl,n3,n4⟩,hb⟩;have P0:=zh (PS w2 A3 c3 A4 c4 hb ⟨A3,c3,A4,c4,rfl,n3,n4⟩);have sb:=hb.size;clear n3 n4 hb)
      have hOs:OB.size<=9223372036854775807:=by
       obtain⟨_,⟨ov,ho⟩,_⟩:=HG.out _ (List.mem_of_getElem? HX0.out)
       obtain⟨h1,h2⟩:=ycf.1 ho
       rw[<- yag,<- show txt ov=bl OB from h1]
       have:=ycx h2
       omega
      clear PS sb I1 HX0
      have s89:w.heap.size<wr.heap.size:=P0.out.2.2.2.2.2.1
      clear hl0 hgl2
      generalize wr.heap.size=g8 at *
      generalize w2.heap.size=g9 at *
      generalize w2.alloc _=ws at *
      go_loopw [64] (fun i wx=>∃ k:Nat,k<=xs.length/\i=.int .i64 (k:Int)/\Hid (wis xs k)/\Hid (PU w wx g8 g9 gl cap xs OB (psum (xs.take k)) (pprod (xs.take k)))) (fun i _=>(xs.length - intOf i).toNat)
      case atStart=>exact⟨0,Nat.zero_le _,rfl,zh (yre xs),by rw[HQ1.out];exact P0⟩
      case round=>
       obtain⟨k,hk,rfl,hW,hF⟩:=hrel
       clear P0
       by_cases hkn:k=xs.length
       ·subst hkn
        have hwis:∀ x ∈ xs,wi x.exp=true:=by have:=hW.out;unfold wis at this;rw[List.take_length] at this;exact this
        have hz:=yio HG.out (Nat.le_refl _) hW.out
        rw[List.take_length] at hF hz
        have hR:=HE hwis
        rw[show pof xs=R from HR.out] at hR
        try dsimp only at hR
        generalize pprod xs=q at *
        obtain⟨⟨s0,s1,s2,s3,s4,s5,s6⟩,hs⟩:∃ p,psum xs=p:=⟨_,rfl⟩
        rw[hs] at hF hR
        have TV:=fun w' v (hb:Below w.heap.size w w') (h:Fr w' v q)=>yhn v q w' (hw.up hb) h (by omega)
        have VU:=fun w' (hb:Below w.heap.size w w')=>ym2 ⟨(put q).toArray⟩ OB ⟨s0,s1,s2,s3,s4,s5,s6⟩ (by rw[<- yag,bl_mk];unfold put;split;(have:=ycx (q:=q) (by assumption);omega);(show 0<=_;omega)) hOs w' (hw.up hb)
        rw[show bl ⟨(put q).toArray⟩=put q from bl_mk _] at VU
        obtain⟨A5,d5,A6,d6,B9,F9⟩:=hF.out.fr
        obtain⟨n0,n1,n2⟩:=(show _/\_/\_ from⟨B9.cell 0,B9.cell 1,B9.cell 2⟩)
        have h9:g9<wr.heap.size:=B9.lt
        have HRR:=zh hR
        obtain⟨P,hP⟩:∃ P:ByteArray,(⟨(put q).toArray⟩:ByteArray)=P:=⟨_,rfl⟩
        have hPb:put q=bl P:=by rw[<- hP];exact(bl_mk _).symm
        rw[hP] at VU
        simp only[hP] at TV
        rw[hPb] at VU HRR
        have F9:=zh F9
        clear hz hs hR hW hwis HE HPE hP hPb B9 hw hOs HG HR
        unfold uv at VU
        dsimp only at VU
        generalize vU (bl P) (bl OB) ⟨s0,s1,s2,s3,s4,s5,s6⟩=vb at *
        cases vb
        ·go_wp2_with (first|(go_at_call 131;(with_reducible refine(VU _ (k3.out.b.setCell (Nat.le_of_lt s89) _)).mono ?_);rintro e w4 ⟨rfl,hb⟩;have U4:Bk w4 g8 (unC P OB ⟨s0,s1,s2,s3,s4,s5,s6⟩) 134:=(Bk.set (C:=unC ⟨#[49]⟩ OB ⟨s0,s1,s2,s3,s4,s5,s6⟩) k3.out.2.2.1 (i:=0) (.string P)).up hb;have Z4:Bk w4 w.heap.size u0C 134:=(k3.out.1.set_other (.string P) (Nat.ne_of_lt s89)).up hb;have b4:=zh (yac (k3.out.b.setCell (p:=⟨g8,0,none⟩) (Nat.le_of_lt s89) (.string P)) hb);obtain⟨c0,c1,c2,c3,c4,c5,c6,c7,c8⟩:=Ub.cells U4;obtain⟨z0,z1,z2,z3,z4,z5,z6,z7,z8⟩:=yc4 Z4;obtain⟨f0,f1,f2,f3,f4,f5,f6,f7,f8⟩:=Bk.frozen9 Z4;clear hb U4 Z4)|(go_at_call 130;(with_reducible refine(TV _ _ hF.out.b F9.out).mono ?_);rintro e w3 ⟨rfl,hb⟩;have k3:=zh (hF.out.up hb);obtain⟨c0,c1,c2,c3,c4,c5,c6,c7,c8⟩:=k3.out.2.2.1.cells;obtain⟨q0,q1,q2,q3,q4,q5,q6,q7,q8⟩:=k3.out.2.2.1.frozen9;clear hb))
         refine bodyPost_ret (v:=.tuple #[.agg u0C,.int .i64 4]) (by simp[results,Tryz.results86,go_sem,u0C,z0,z1,z2,z3,z4,z5,z6,z7,z8]) rfl ⟨?_,yb9 b4.out (Nat.le_refl _)⟩
         rw[show R=_ from HRR.out];rfl
        ·go_wp2_with (first|(go_at_call 131;(with_reducible refine(VU _ (k3.out.b.setCell (Nat.le_of_lt s89) _)).mono ?_);rintro e w4 ⟨rfl,hb⟩;have U4:Bk w4 g8 (unC P OB ⟨s0,s1,s2,s3,s4,s5,s6⟩) 134:=(Bk.set (C:=unC ⟨#[49]⟩ OB ⟨s0,s1,s2,s3,s4,s5,s6⟩) k3.out.2.2.1 (i:=0) (.string P)).up hb;have Z4:Bk w4 w.heap.size u0C 134:=(k3.out.1.set_other (.string P) (Nat.ne_of_lt s89)).up hb;have b4:=zh (yac (k3.out.b.setCell (p:=⟨g8,0,none⟩) (Nat.le_of_lt s89) (.string P)) hb);obtain⟨c0,c1,c2,c3,c4,c5,c6,c7,c8⟩:=Ub.cells U4;obtain⟨z0,z1,z2,z3,z4,z5,z6,z7,z8⟩:=yc4 Z4;obtain⟨f0,f1,f2,f3,f4,f5,f6,f7,f8⟩:=Bk.frozen9 Z4;clear hb U4 Z4)|(go_at_call 130;(with_reducible refine(TV _ _ hF.out.b F9.out).mono ?_);rintro e w3 ⟨rfl,hb⟩;have k3:=zh (hF.out.up hb);obtain⟨c0,c1,c2,c3,c4,c5,c6,c7,c8⟩:=k3.out.2.2.1.cells;obtain⟨q0,q1,q2,q3,q4,q5,q6,q7,q8⟩:=k3.out.2.2.1.frozen9;clear hb))
         refine bodyPost_ret (v:=.tuple #[.agg #[.string P,.string OB,.int .i64 s0,.int .i64 s1,.int .i64 s2,.int .i64 s3,.int .i64 s4,.int .i64 s5,.int .i64 s6],.int .i64 0]) (by simp[results,Tryz.results86,go_sem,z0,z1,z2,z3,z4,z5,z6,z7,z8]) rfl ⟨?_,yd9 (Nat.le_refl _) [.string P,.string OB,.int .i64 s0,.int .i64 s1,.int .i64 s2,.int .i64 s3,.int .i64 s4,.int .i64 s5,.int .i64 s6] 0 b4.out⟩
         rw[show R=_ from HRR.out];rfl
       ·have hlt:k<xs.length:=by omega
        have hi:(k:Int)<(xs.length:Int):=by omega
        obtain⟨x,hxk⟩:∃ x,xs[k]?=some x:=⟨_,List.getElem?_eq_getElem hlt⟩
        obtain⟨⟨n,f,o,b,⟨p0,p1,p2,p3,p4,p5,p6⟩⟩,e,br⟩:=x
        obtain⟨c0,c1,c2,c3,c4,c5,c6,c7,c8,c9,c10,c11,c12⟩:=ygc (hF.out.2.1) hxk
        obtain⟨NB,hNB⟩:∃ M:ByteArray,(⟨n.toArray⟩:ByteArray)=M:=⟨_,rfl⟩
        obtain⟨FB,hFB⟩:∃ M:ByteArray,(⟨f.toArray⟩:ByteArray)=M:=⟨_,rfl⟩
        obtain⟨PB,hPB⟩:∃ M:ByteArray,(⟨o.toArray⟩:ByteArray)=M:=⟨_,rfl⟩
        rw[hNB] at c0
        rw[hFB] at c1
        rw[hPB] at c2
        have hfb:f=bl FB:=by rw[<- hFB];rfl
        subst hfb
        have HX:=zh hxk
        clear hNB hFB hPB hxk HE
        have kG:=zh (hF.out.grow #[.string NB,.string FB,.string PB,.bool b,.int .i64 p0,.int .i64 p1,.int .i64 p2,.int .i64 p3,.int .i64 p4,.int .i64 p5,.int .i64 p6,.int .i64 e,.bool br] 174)
        by_cases e1:e < -12
        ·have hR:=HPE _ _ HX.out (yfz (x:=e) (by omega))
         rw[show pof xs=R from HR.out] at hR
         subst hR
         obtain⟨z0,z1,z2,z3,z4,z5,z6,z7,z8⟩:=yc4 kG.out.1;obtain⟨f0,f1,f2,f3,f4,f5,f6,f7,f8⟩:=Bk.frozen9 kG.out.1
         clear HPE hW
         go_wp2
         refine bodyPost_ret (v:=.tuple #[.agg u0C,.int .i64 4]) (by simp[results,Tryz.results86,go_sem,u0C,z0,z1,z2,z3,z4,z5,z6,z7,z8]) rfl ⟨rfl,yb9 kG.out.b (Nat.le_refl _)⟩
        by_cases e2:12<e
        ·have hR:=HPE _ _ HX.out (yd3 (x:=e) (by omega))
         rw[show pof xs=R from HR.out] at hR
         subst hR
         obtain⟨z0,z1,z2,z3,z4,z5,z6,z7,z8⟩:=yc4 kG.out.1;obtain⟨f0,f1,f2,f3,f4,f5,f6,f7,f8⟩:=Bk.frozen9 kG.out.1
         clear HPE hW
         go_wp2
         refine bodyPost_ret (v:=.tuple #[.agg u0C,.int .i64 4]) (by simp[results,Tryz.results86,go_sem,u0C,z0,z1,z2,z3,z4,z5,z6,z7,z8]) rfl ⟨rfl,yb9 kG.out.b (Nat.le_refl _)⟩
        have hen : -12<=e/\e<=12:=by omega
        have HWi:=zh (yq2 hW.out HX.out (yfx hen.1 hen.2))
        obtain⟨⟨fv,hfv,hf0⟩,_,hsm⟩:=HG.out _ (List.mem_of_getElem? HX.out)
        replace hfv:num? (bl FB)=some fv:=hfv
        have le:=yn6 HG.out hk hW.out
        have hz:=yio HG.out hk hW.out
        have HS:=yi6 HX.out
        have HQ:=yho HX.out hfv
        obtain⟨⟨s0,s1,s2,s3,s4,s5,s6⟩,hs⟩:∃ p,psum (xs.take k)=p:=⟨_,rfl⟩
        rw[hs] at hF kG le HS
        obtain⟨q,hq⟩:∃ q,pprod (xs.take k)=q:=⟨_,rfl⟩
        rw[hq] at hF kG hz HQ
        unfold P7.le at le
        unfold P7.small at hsm
        unfold P7.plus at HS
        dsimp only at le hsm HS HQ
        obtain⟨⟨la0,lb0⟩,⟨la1,lb1⟩,⟨la2,lb2⟩,⟨la3,lb3⟩,⟨la4,lb4⟩,⟨la5,lb5⟩,⟨la6,lb6⟩⟩:=le
        obtain⟨hp0,hp1,hp2,hp3,hp4,hp5,hp6⟩:=hsm
        have t0:=yc6 hen hp0
        obtain⟨m0,hm0⟩:∃ m,e*p0=m:=⟨_,rfl⟩
        rw[hm0] at t0 HS
        have mm0:p0*e=m0:=by rw[Int.mul_comm];exact hm0
        obtain⟨tl0,th0⟩:=t0
        have x0:IntKind.i64.wrap (p0*e)=m0:=by rw[mm0];exact IntWalk.i64_in _ (by constructor<;>omega)
        have y0:IntKind.i64.wrap (s0+m0)=s0+m0:=IntWalk.i64_in _ (by constructor<;>omega)
        clear hm0 hp0 mm0
        have t1:=yc6 hen hp1
        obtain⟨m1,hm1⟩:∃ m,e*p1=m:=⟨_,rfl⟩
        rw[hm1] at t1 HS
        have mm1:p1*e=m1:=by rw[Int.mul_comm];exact hm1
        obtain⟨tl1,th1⟩:=t1
        have x1:IntKind.i64.wrap (p1*e)=m1:=by rw[mm1];exact IntWalk.i64_in _ (by constructor<;>omega)
        have y1:IntKind.i64.wrap (s1+m1)=s1+m1:=IntWalk.i64_in _ (by constructor<;>omega)
        clear hm1 hp1 mm1
        have t2:=yc6 hen hp2
        obtain⟨m2,hm2⟩:∃ m,e*p2=m:=⟨_,rfl⟩
        rw[hm2] at t2 HS
        have mm2:p2*e=m2:=by rw[Int.mul_comm];exact hm2
        obtain⟨tl2,th2⟩:=t2
        have x2:IntKind.i64.wrap (p2*e)=m2:=by rw[mm2];exact IntWalk.i64_in _ (by constructor<;>omega)
        have y2:IntKind.i64.wrap (s2+m2)=s2+m2:=IntWalk.i64_in _ (by constructor<;>omega)
        clear hm2 hp2 mm2
        have t3:=yc6 hen hp3
        obtain⟨m3,hm3⟩:∃ m,e*p3=m:=⟨_,rfl⟩
        rw[hm3] at t3 HS
        have mm3:p3*e=m3:=by rw[Int.mul_comm];exact hm3
        obtain⟨tl3,th3⟩:=t3
        have x3:IntKind.i64.wrap (p3*e)=m3:=by rw[mm3];exact IntWalk.i64_in _ (by constructor<;>omega)
        have y3:IntKind.i64.wrap (s3+m3)=s3+m3:=IntWalk.i64_in _ (by constructor<;>omega)
        clear hm3 hp3 mm3
        have t4:=yc6 hen hp4
        obtain⟨m4,hm4⟩:∃ m,e*p4=m:=⟨_,rfl⟩
        rw[hm4] at t4 HS
        have mm4:p4*e=m4:=by rw[Int.mul_comm];exact hm4
        obtain⟨tl4,th4⟩:=t4
        have x4:IntKind.i64.wrap (p4*e)=m4:=by rw[mm4];exact IntWalk.i64_in _ (by constructor<;>omega)
        have y4:IntKind.i64.wrap (s4+m4)=s4+m4:=IntWalk.i64_in _ (by constructor<;>omega)
        clear hm4 hp4 mm4
        have t5:=yc6 hen hp5
        obtain⟨m5,hm5⟩:∃ m,e*p5=m:=⟨_,rfl⟩
        rw[hm5] at t5 HS
        have mm5:p5*e=m5:=by rw[Int.mul_comm];exact hm5
        obtain⟨tl5,th5⟩:=t5
        have x5:IntKind.i64.wrap (p5*e)=m5:=by rw[mm5];exact IntWalk.i64_in _ (by constructor<;>omega)
        have y5:IntKind.i64.wrap (s5+m5)=s5+m5:=IntWalk.i64_in _ (by constructor<;>omega)
        clear hm5 hp5 mm5
        have t6:=yc6 hen hp6
        obtain⟨m6,hm6⟩:∃ m,e*p6=m:=⟨_,rfl⟩
        rw[hm6] at t6 HS
        have mm6:p6*e=m6:=by rw[Int.mul_comm];exact hm6
        obtain⟨tl6,th6⟩:=t6
        have x6:IntKind.i64.wrap (p6*e)=m6:=by rw[mm6];exact IntWalk.i64_in _ (by constructor<;>omega)
        have y6:IntKind.i64.wrap (s6+m6)=s6+m6:=IntWalk.i64_in _ (by constructor<;>omega)
        clear hm6 hp6 mm6
        have hFs:FB.size<=9223372036854775807:=by
         obtain⟨h1,h2⟩:=ycf.1 hfv
         rw[<- yag,<- h1]
         have:=ycx h2
         omega
        have RD:=fun w' (hb:Below w.heap.size w w')=>(ydn FB hFs w' (hw.up hb)).mono fun e w2 h=>(show ∃ b A n c A' n' c',e=.returned (.tuple #[.agg #[.bool b,.slice A n c,.slice A' n' c'],.bool true])/\Below w'.heap.size w' w2/\Fr w2 (.agg #[.bool b,.slice A n c,.slice A' n' c']) fv by rw[hfv] at h;obtain⟨b,A,n,c,A',n',c',he,hb,hF⟩:=h;exact⟨b,A,n,c,A',n',c',he,hb,hF fv rfl⟩)
        have zf:=yhb hfv
        have hne0:fv≠0:=Rat.ne_of_gt hf0
        have zp:=ypj hne0 zf e
        have zn:e.natAbs*5<=60:=by omega
        have PW:=fun w' v (h:Fr w' v fv)=>yrl v fv e (by omega) w' h hne0 (by omega)
        have MU:=fun w' v v' (h:Fr w' v q) (h':Fr w' v' (fv ^ e))=>yhs v v' q (fv ^ e) w' h h' (by omega)
        obtain⟨fe,hfe⟩:∃ x,fv ^ e=x:=⟨_,rfl⟩
        rw[hfe] at HQ
        simp only[hfe] at PW MU
        obtain⟨q',hq'⟩:∃ x,q*fe=x:=⟨_,rfl⟩
        rw[hq'] at HQ
        simp only[hq'] at MU
        obtain⟨A5,d5,A6,d6,B9,F9⟩:=hF.out.fr
        have B9':=zh (B9.alloc (D:=#[.string NB,.string FB,.string PB,.bool b,.int .i64 p0,.int .i64 p1,.int .i64 p2,.int .i64 p3,.int .i64 p4,.int .i64 p5,.int .i64 p6,.int .i64 e,.bool br]) (u:=174))
        have F9':=zh (F9.up ((Below.refl _ _).alloc (Nat.le_refl _) (.cells #[.string NB,.string FB,.string PB,.bool b,.int .i64 p0,.int .i64 p1,.int .i64 p2,.int .i64 p3,.int .i64 p4,.int .i64 p5,.int .i64 p6,.int .i64 e,.bool br] 174)))
        have B11:=zh (Bk.new wr #[.string NB,.string FB,.string PB,.bool b,.int .i64 p0,.int .i64 p1,.int .i64 p2,.int .i64 p3,.int .i64 p4,.int .i64 p5,.int .i64 p6,.int .i64 e,.bool br] 174)
        have h911:g9<wr.heap.size:=B9.lt
        have h811:g8<wr.heap.size:=Nat.lt_trans hF.out.2.2.2.2.2.2.2 h911
        have HSh:=zh HS
        have HQh:=zh HQ
        clear HS HQ hfe hq' hs hq hfv hf0 hz hFs zf hne0 zp zn B9 F9 hF hW HPE hlt
        go_wp2_with (go_at_call 127;(with_reducible refine(RD _ kG.out.b).mono ?_);rintro e' w3 ⟨b7,A7,n7,d7,A8,n8,d8,rfl,hb,hF7⟩;have k3:=zh (kG.out.up hb);have B3:=zh (B11.out.up hb);have N3:=zh (B9'.out.up hb);have M3:=zh (F9'.out.up hb);have G3:=zh hF7;clear hb hF7)
        have bx:=(ya1 w3 (.bool b7) (.slice A7 n7 d7) (.slice A8 n8 d8) 178).2.1
        have bd:=zh (yac bx (Below.drew (Below.refl _ _)))
        have k5:=zh (k3.out.up bd.out)
        have B5:=zh (B3.out.up bd.out)
        have N5:=zh (N3.out.up bd.out)
        have M5:=zh (M3.out.up bd.out)
        have G5:=zh (G3.out.up bd.out)
        have C5:=zh ((Bk.new w3 #[.bool b7,.slice A7 n7 d7,.slice A8 n8 d8] 178).up (Below.drew (Below.refl _ _)))
        clear bx bd k3 B3 N3 M3 G3 kG B9' F9' B11 RD
        generalize w3.heap.size=g12 at *
        generalize wr.heap.size=g11 at *
        generalize w3.alloc _=w4 at *
        obtain⟨n0,n1,n2,r0,r1,r2,xe⟩:=seven N5.out B5.out C5.out
        go_cut [] (fun wx=>Hid (PU w wx g8 g9 gl cap xs OB ⟨s0,s1,s2,s3,s4,s5,s6⟩ q')/\Hid (Bk wx g11 #[.string NB,.string FB,.string PB,.bool b,.int .i64 p0,.int .i64 p1,.int .i64 p2,.int .i64 p3,.int .i64 p4,.int .i64 p5,.int .i64 p6,.int .i64 e,.bool br] 174))
        case first=>
         go_region_with (first
          | (go_at_call 128;(with_reducible refine(MU _ _ _ M6.out P6.out).mono ?_);rintro e' w7 ⟨v,rfl,⟨A9,c9',A10,c10',rfl,n9,n10⟩,hb⟩;have k7:=zh (k6.out.up hb);have B7:=zh (B6.out.up hb);have N7:=zh (N6.out.up hb);have C7:=zh (C6.out.up hb);obtain⟨q0,q1,q2⟩:=(show _/\_/\_ from⟨N7.out.frozen 0,N7.out.frozen 1,N7.out.frozen 2⟩);obtain⟨n0,n1,n2⟩:=(show _/\_/\_ from⟨N7.out.cell 0,N7.out.cell 1,N7.out.cell 2⟩);have F7:=zh (show Fr w7 _ q' from⟨A9,c9',A10,c10',rfl,n9,n10⟩);clear n9 n10 hb)
          | (go_at_call 129;(with_reducible refine(PW _ _ G5.out).mono ?_);rintro e' w6 ⟨v,rfl,hFp,hb⟩;have k6:=zh (k5.out.up hb);have B6:=zh (B5.out.up hb);have N6:=zh (N5.out.up hb);have C6:=zh (C5.out.up hb);obtain⟨n0,n1,n2⟩:=(show _/\_/\_ from⟨N6.out.cell 0,N6.out.cell 1,N6.out.cell 2⟩);have M6:=zh (M5.out.up hb);have P6:=zh hFp;clear hFp hb))
         all_goals go_wp2
         all_goals go_meet
         all_goals exact⟨zh (k7.out.put9 F7.out),zh (B7.out.put_other 0 [.bool (ngt q'),.slice A9 (nd (top q')) c9',.slice A10 (nd q'.den) c10'] (Nat.ne_of_gt h911))⟩
        case rest=>
         obtain⟨P10,B10⟩:=hcut
         clear M5 G5 C5 N5 B5 k5 n0 n1 n2 r0 r1 r2 xe PW MU
         obtain⟨xe0,xe1,xe2,xe3,xe4,xe5,xe6⟩:=(show _/\_/\_/\_/\_/\_/\_ from⟨B10.out.cell 4,B10.out.cell 5,B10.out.cell 6,B10.out.cell 7,B10.out.cell 8,B10.out.cell 9,B10.out.cell 10⟩)
         have i0:=fun w=>(Tryz.ix7 (.int .i64 p0) (.int .i64 p1) (.int .i64 p2) (.int .i64 p3) (.int .i64 p4) (.int .i64 p5) (.int .i64 p6) w).1
         have i1:=fun w=>(Tryz.ix7 (.int .i64 p0) (.int .i64 p1) (.int .i64 p2) (.int .i64 p3) (.int .i64 p4) (.int .i64 p5) (.int .i64 p6) w).2.1
         have i2:=fun w=>(Tryz.ix7 (.int .i64 p0) (.int .i64 p1) (.int .i64 p2) (.int .i64 p3) (.int .i64 p4) (.int .i64 p5) (.int .i64 p6) w).2.2.1
         have i3:=fun w=>(Tryz.ix7 (.int .i64 p0) (.int .i64 p1) (.int .i64 p2) (.int .i64 p3) (.int .i64 p4) (.int .i64 p5) (.int .i64 p6) w).2.2.2.1
         have i4:=fun w=>(Tryz.ix7 (.int .i64 p0) (.int .i64 p1) (.int .i64 p2) (.int .i64 p3) (.int .i64 p4) (.int .i64 p5) (.int .i64 p6) w).2.2.2.2.1
         have i5:=fun w=>(Tryz.ix7 (.int .i64 p0) (.int .i64 p1) (.int .i64 p2) (.int .i64 p3) (.int .i64 p4) (.int .i64 p5) (.int .i64 p6) w).2.2.2.2.2.1
         have i6:=fun w=>(Tryz.ix7 (.int .i64 p0) (.int .i64 p1) (.int .i64 p2) (.int .i64 p3) (.int .i64 p4) (.int .i64 p5) (.int .i64 p6) w).2.2.2.2.2.2
         go_wp2
         refine wp_loop_rounds 8 ?_
         rw[rounds_succ]
         obtain⟨_,_,c0,c1,c2,c3,c4,c5,c6⟩:=Ub.cells P10.out.2.2.1
         obtain⟨_,_,f0,f1,f2,f3,f4,f5,f6⟩:=Ub.frozen9 P10.out.2.2.1
         have ee:=B10.out.cell 11
         go_wp2
         refine wp_region_still_tail 11 (by kernel_rfl) (by kernel_rfl) ?_
         simp only[List.take_succ_cons,List.take_zero,List.drop_succ_cons,List.drop_zero]
         repeat still_step
         refine wpStill_nil ?_
         change wpList _ _ _ _ _ wc.drew
         go_wp2
         have P11:=zh ((P10.out.put8 2 (.int .i64 (s0+m0)) (p':=⟨s0+m0,s1,s2,s3,s4,s5,s6⟩) rfl).drew)
         have B11:=zh ((B10.out.set_other (h:=g8) (i:=2) (.int .i64 (s0+m0)) (Nat.ne_of_gt h811)).up (Below.drew (Below.refl _ _)))
         clear P10 B10 c0 c1 c2 c3 c4 c5 c6 f0 f1 f2 f3 f4 f5 f6 ee
         generalize (wc.setCell ⟨g8,2,none⟩ (.int .i64 (s0+m0))).drew=wz1 at *
         rw[rounds_succ]
         obtain⟨_,_,c0,c1,c2,c3,c4,c5,c6⟩:=Ub.cells P11.out.2.2.1
         obtain⟨_,_,f0,f1,f2,f3,f4,f5,f6⟩:=Ub.frozen9 P11.out.2.2.1
         have ee:=B11.out.cell 11
         go_wp2
         refine wp_region_still_tail 11 (by kernel_rfl) (by kernel_rfl) ?_
         simp only[List.take_succ_cons,List.take_zero,List.drop_succ_cons,List.drop_zero]
         repeat still_step
         refine wpStill_nil ?_
         change wpList _ _ _ _ _ wz1.drew
         go_wp2
         have P12:=zh ((P11.out.put8 3 (.int .i64 (s1+m1)) (p':=⟨s0+m0,s1+m1,s2,s3,s4,s5,s6⟩) rfl).drew)
         have B12:=zh ((B11.out.set_other (h:=g8) (i:=3) (.int .i64 (s1+m1)) (Nat.ne_of_gt h811)).up (Below.drew (Below.refl _ _)))
         clear P11 B11 c0 c1 c2 c3 c4 c5 c6 f0 f1 f2 f3 f4 f5 f6 ee
         generalize (wz1.setCell ⟨g8,3,none⟩ (.int .i64 (s1+m1))).drew=wz2 at *
         rw[rounds_succ]
         obtain⟨_,_,c0,c1,c2,c3,c4,c5,c6⟩:=Ub.cells P12.out.2.2.1
         obtain⟨_,_,f0,f1,f2,f3,f4,f5,f6⟩:=Ub.frozen9 P12.out.2.2.1
         have ee:=B12.out.cell 11
         go_wp2
         refine wp_region_still_tail 11 (by kernel_rfl) (by kernel_rfl) ?_
         simp only[List.take_succ_cons,List.take_zero,List.drop_succ_cons,List.drop_zero]
         repeat still_step
         refine wpStill_nil ?_
         change wpList _ _ _ _ _ wz2.drew
         go_wp2
         have P13:=zh ((P12.out.put8 4 (.int .i64 (s2+m2)) (p':=⟨s0+m0,s1+m1,s2+m2,s3,s4,s5,s6⟩) rfl).drew)
         have B13:=zh ((B12.out.set_other (h:=g8) (i:=4) (.int .i64 (s2+m2)) (Nat.ne_of_gt h811)).up (Below.drew (Below.refl _ _)))
         clear P12 B12 c0 c1 c2 c3 c4 c5 c6 f0 f1 f2 f3 f4 f5 f6 ee
         generalize (wz2.setCell ⟨g8,4,none⟩ (.int .i64 (s2+m2))).drew=wz3 at *
         rw[rounds_succ]
         obtain⟨_,_,c0,c1,c2,c3,c4,c5,c6⟩:=Ub.cells P13.out.2.2.1
         obtain⟨_,_,f0,f1,f2,f3,f4,f5,f6⟩:=Ub.frozen9 P13.out.2.2.1
         have ee:=B13.out.cell 11
         go_wp2
         refine wp_region_still_tail 11 (by kernel_rfl) (by kernel_rfl) ?_
         simp only[List.take_succ_cons,List.take_zero,List.drop_succ_cons,List.drop_zero]
         repeat still_step
         refine wpStill_nil ?_
         change wpList _ _ _ _ _ wz3.drew
         go_wp2
         have P14:=zh ((P13.out.put8 5 (.int .i64 (s3+m3)) (p':=⟨s0+m0,s1+m1,s2+m2,s3+m3,s4,s5,s6⟩) rfl).drew)
         have B14:=zh ((B13.out.set_other (h:=g8) (i:=5) (.int .i64 (s3+m3)) (Nat.ne_of_gt h811)).up (Below.drew (Below.refl _ _)))
         clear P13 B13 c0 c1 c2 c3 c4 c5 c6 f0 f1 f2 f3 f4 f5 f6 ee
         generalize (wz3.setCell ⟨g8,5,none⟩ (.int .i64 (s3+m3))).drew=wz4 at *
         rw[rounds_succ]
         obtain⟨_,_,c0,c1,c2,c3,c4,c5,c6⟩:=Ub.cells P14.out.2.2.1
         obtain⟨_,_,f0,f1,f2,f3,f4,f5,f6⟩:=Ub.frozen9 P14.out.2.2.1
         have ee:=B14.out.cell 11
         go_wp2
         refine wp_region_still_tail 11 (by kernel_rfl) (by kernel_rfl) ?_
         simp only[List.take_succ_cons,List.take_zero,List.drop_succ_cons,List.drop_zero]
         repeat still_step
         refine wpStill_nil ?_
         change wpList _ _ _ _ _ wz4.drew
         go_wp2
         have P15:=zh ((P14.out.put8 6 (.int .i64 (s4+m4)) (p':=⟨s0+m0,s1+m1,s2+m2,s3+m3,s4+m4,s5,s6⟩) rfl).drew)
         have B15:=zh ((B14.out.set_other (h:=g8) (i:=6) (.int .i64 (s4+m4)) (Nat.ne_of_gt h811)).up (Below.drew (Below.refl _ _)))
         clear P14 B14 c0 c1 c2 c3 c4 c5 c6 f0 f1 f2 f3 f4 f5 f6 ee
         generalize (wz4.setCell ⟨g8,6,none⟩ (.int .i64 (s4+m4))).drew=wz5 at *
         rw[rounds_succ]
         obtain⟨_,_,c0,c1,c2,c3,c4,c5,c6⟩:=Ub.cells P15.out.2.2.1
         obtain⟨_,_,f0,f1,f2,f3,f4,f5,f6⟩:=Ub.frozen9 P15.out.2.2.1
         have ee:=B15.out.cell 11
         go_wp2
         refine wp_region_still_tail 11 (by kernel_rfl) (by kernel_rfl) ?_
         simp only[List.take_succ_cons,List.take_zero,List.drop_succ_cons,List.drop_zero]
         repeat still_step
         refine wpStill_nil ?_
         change wpList _ _ _ _ _ wz5.drew
         go_wp2
         have P16:=zh ((P15.out.put8 7 (.int .i64 (s5+m5)) (p':=⟨s0+m0,s1+m1,s2+m2,s3+m3,s4+m4,s5+m5,s6⟩) rfl).drew)
         have B16:=zh ((B15.out.set_other (h:=g8) (i:=7) (.int .i64 (s5+m5)) (Nat.ne_of_gt h811)).up (Below.drew (Below.refl _ _)))
         clear P15 B15 c0 c1 c2 c3 c4 c5 c6 f0 f1 f2 f3 f4 f5 f6 ee
         generalize (wz5.setCell ⟨g8,7,none⟩ (.int .i64 (s5+m5))).drew=wz6 at *
         rw[rounds_succ]
         obtain⟨_,_,c0,c1,c2,c3,c4,c5,c6⟩:=Ub.cells P16.out.2.2.1
         obtain⟨_,_,f0,f1,f2,f3,f4,f5,f6⟩:=Ub.frozen9 P16.out.2.2.1
         have ee:=B16.out.cell 11
         go_wp2
         refine wp_region_still_tail 11 (by kernel_rfl) (by kernel_rfl) ?_
         simp only[List.take_succ_cons,List.take_zero,List.drop_succ_cons,List.drop_zero]
         repeat still_step
         refine wpStill_nil ?_
         change wpList _ _ _ _ _ wz6.drew
         go_wp2
         have P17:=zh ((P16.out.put8 8 (.int .i64 (s6+m6)) (p':=⟨s0+m0,s1+m1,s2+m2,s3+m3,s4+m4,s5+m5,s6+m6⟩) rfl).drew)
         have B17:=zh ((B16.out.set_other (h:=g8) (i:=8) (.int .i64 (s6+m6)) (Nat.ne_of_gt h811)).up (Below.drew (Below.refl _ _)))
         clear P16 B16 c0 c1 c2 c3 c4 c5 c6 f0 f1 f2 f3 f4 f5 f6 ee
         generalize (wz6.setCell ⟨g8,8,none⟩ (.int .i64 (s6+m6))).drew=wz7 at *
         rw[rounds_succ]
         go_wp2
         go_roundw
         case rel=>exact⟨k+1,by omega,by go_num,HWi,by rw[HSh.out,HQh.out];exact P17⟩
         case measure=>simp only[intOf];omega
    ·have hlt:k<xs.length:=by omega
     have hi:(k:Int)<(xs.length:Int):=by omega
     obtain⟨x,hxk⟩:∃ x,xs[k]?=some x:=⟨_,List.getElem?_eq_getElem hlt⟩
     obtain⟨⟨n,f,o,b,⟨p0,p1,p2,p3,p4,p5,p6⟩⟩,e,br⟩:=x
     obtain⟨c0,c1,c2,c3,c4,c5,c6,c7,c8,c9,c10,c11,c12⟩:=ygc (hF.out.2.1) hxk
     obtain⟨NB,hNB⟩:∃ M:ByteArray,(⟨n.toArray⟩:ByteArray)=M:=⟨_,rfl⟩
     rw[hNB] at c0
     obtain⟨FB,hFB⟩:∃ M:ByteArray,(⟨f.toArray⟩:ByteArray)=M:=⟨_,rfl⟩
     rw[hFB] at c1
     obtain⟨OB,hOB⟩:∃ M:ByteArray,(⟨o.toArray⟩:ByteArray)=M:=⟨_,rfl⟩
     rw[hOB] at c2
     have hob:o=bl OB:=by rw[<- hOB];rfl
     have hfb:f=bl FB:=by rw[<- hFB];rfl
     subst hob hfb
     have HX:=zh hxk
     clear hNB hFB hOB hxk
     have hG:=zh (hF.out.grow #[.string NB,.string FB,.string OB,.bool b,.int .i64 p0,.int .i64 p1,.int .i64 p2,.int .i64 p3,.int .i64 p4,.int .i64 p5,.int .i64 p6,.int .i64 e,.bool br] 174)
     have hoff:(OB.toList==[48])=decide (bl OB=[48]):=eqS OB [48]
     by_cases h48:bl OB=[48]
     ·rw[decide_eq_true h48] at hoff
      have HA:=zh (ymu hA.out HX.out (by show (bl OB != [48]&&_)=false;rw[h48];rfl))
      clear hA h48
      go_wp2
      go_roundw
      case rel=>exact⟨k+1,by omega,by go_num,HA,hG⟩
      case measure=>simp only[intOf];omega
     ·rw[decide_eq_false h48] at hoff
      have hx1:(bl OB != [48])=true:=by simpa using h48
      by_cases h1:1<xs.length
      ·have h1':(1:Int)<(xs.length:Int):=by omega
       have hY:=yok (p:=fun x:PF=>x.s.off != [48]&&(decide (1<xs.length)||!x.bare)) HX.out (by show (bl OB != [48]&&(decide (1<xs.length)||!br))=true;rw[hx1,decide_eq_true h1];rfl)
       have hR:=HR.out
       unfold pof at hR
       rw[if_pos hY] at hR
       subst hR
       obtain⟨z0,z1,z2,z3,z4,z5,z6,z7,z8⟩:=yc4 hG.out.1;obtain⟨f0,f1,f2,f3,f4,f5,f6,f7,f8⟩:=hG.out.1.frozen9
       clear hA h48 hY
       go_wp2
       refine bodyPost_ret (v:=.tuple #[.agg u0C,.int .i64 10]) (by simp[results,Tryz.results86,go_sem,u0C,z0,z1,z2,z3,z4,z5,z6,z7,z8]) rfl ⟨rfl,yb9 hG.out.2.2 (Nat.le_refl _)⟩
      ·have h1':¬(1:Int)<(xs.length:Int):=by omega
       cases br
       ·have hY:=yok (p:=fun x:PF=>x.s.off != [48]&&(decide (1<xs.length)||!x.bare)) HX.out (by show (bl OB != [48]&&(decide (1<xs.length)||!false))=true;rw[hx1];simp)
        have hR:=HR.out
        unfold pof at hR
        rw[if_pos hY] at hR
        subst hR
        obtain⟨z0,z1,z2,z3,z4,z5,z6,z7,z8⟩:=yc4 hG.out.1;obtain⟨f0,f1,f2,f3,f4,f5,f6,f7,f8⟩:=hG.out.1.frozen9
        clear hA h48 hY
        go_wp2
        refine bodyPost_ret (v:=.tuple #[.agg u0C,.int .i64 10]) (by simp[results,Tryz.results86,go_sem,u0C,z0,z1,z2,z3,z4,z5,z6,z7,z8]) rfl ⟨rfl,yb9 hG.out.2.2 (Nat.le_refl _)⟩
       ·have HA:=zh (ymu hA.out HX.out (by show (bl OB != [48]&&(decide (1<xs.length)||!true))=false;rw[decide_eq_false h1,hx1];rfl))
        clear hA h48
        go_wp2
        go_roundw
        case rel=>exact⟨k+1,by omega,by go_num,HA,hG⟩
        case measure=>simp only[intOf];omega
end Go.Proofs.YtajmjllhdcdkmaaGreatDoor
