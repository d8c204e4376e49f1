import Derived.Test.YtajmjllhdcdkmaaGreatDoorZ
import Derived.Test.YtajmjllhdcdkmaaGreatDoorG23
import Derived.Test.YtajmjllhdcdkmaaGreatDoorG24
import Derived.Test.YtajmjllhdcdkmaaGreatDoorG25
import Derived.Test.YtajmjllhdcdkmaaGreatDoorG9
import Derived.Test.YtajmjllhdcdkmaaGreatDoorG11
import Derived.Test.YtajmjllhdcdkmaaGreatDoorG15
import Derived.Test.YtajmjllhdcdkmaaGreatDoorG12
import Derived.Test.YtajmjllhdcdkmaaGreatDoorG17
set_option maxRecDepth 100000
set_option maxHeartbeats 12800000
namespace Go.Proofs.YtajmjllhdcdkmaaGreatDoor
open Go.RowKit Dg Q Num Str
theorem yr0 (w:World) (hw:Ws w):Calls Tryz.prog 186 #[.string ⟨#[109]⟩] w fun e w'=>e=.returned (.string ⟨#[34,109,34]⟩)/\Below w.heap.size w w':=by
 have R1:=fun w' (hb:Below w.heap.size w w')=>(show Calls Tryz.prog 221 #[.string ⟨#[109]⟩,.string ⟨#[92]⟩,.string ⟨#[92,92]⟩] w' fun e w2=>e=.returned (.string ⟨#[109]⟩)/\Below w'.heap.size w' w2 from by
  obtain⟨mx,hmx⟩:=(hw.up hb).2.2
  exact Tryz.strings_ReplaceAll ⟨#[109]⟩ ⟨#[92]⟩ ⟨#[92,92]⟩ mx w' (by decide) hmx (by decide) (by decide))
 have R2:=fun w' (hb:Below w.heap.size w w')=>(show Calls Tryz.prog 221 #[.string ⟨#[109]⟩,.string ⟨#[34]⟩,.string ⟨#[92,34]⟩] w' fun e w2=>e=.returned (.string ⟨#[109]⟩)/\Below w'.heap.size w' w2 from by
  obtain⟨mx,hmx⟩:=(hw.up hb).2.2
  exact Tryz.strings_ReplaceAll ⟨#[109]⟩ ⟨#[34]⟩ ⟨#[92,34]⟩ mx w' (by decide) hmx (by decide) (by decide))
 clear hw
 go_enter Tryz.func186,Tryz.ntmps186
 go_wp2_with (first
  | (go_at_call 221;(with_reducible refine(R2 _ b1).mono ?_);rintro e w2 ⟨rfl,hb⟩;have b2:=zh (yac b1 hb);clear hb)
  | (go_at_call 221;(with_reducible refine(R1 _ (Below.refl _ _)).mono ?_);rintro e w1 ⟨rfl,b1⟩))
 go_ret
 exact⟨rfl,b2.out⟩
def typesC:Array Value:=#[.string ⟨#[]⟩,.string ⟨#[105,56]⟩,.string ⟨#[105,49,54]⟩,.string ⟨#[105,51,50]⟩,.string ⟨#[105,54,52]⟩,.string ⟨#[110,117,109]⟩]
theorem ygd (w:World):Calls Tryz.prog 139 #[] w fun e w'=>e=.returned (.slice (some ⟨w.heap.size,0,none⟩) 6 6)/\w'=w.alloc (.cells typesC 9):=by
 go_enter Tryz.func139,Tryz.ntmps139
 go_wp2
 go_ret
 exact⟨rfl,rfl⟩
theorem ysm (w:World) (hw:Wf w):Calls Tryz.prog 146 #[.int .i64 2] w fun e w'=>e=.returned (.string ⟨#[50]⟩)/\Below w.heap.size w w':=by
 refine(yil 2 (by decide) w hw).mono ?_
 rintro e w' ⟨R,rfl,hR,hb⟩
 have:R=⟨#[50]⟩:=ye1 (hR.trans (by decide +kernel))
 rw[this]
 exact⟨rfl,hb⟩
theorem atoi_2 (w:World):Calls Tryz.prog 137 #[.string ⟨#[50]⟩] w fun e w'=>e=.returned (.tuple #[.int .i64 2,.nilIface])/\Below w.heap.size w w':=by
 refine(Tryz.strconv_Atoi_ok ⟨#[50]⟩ (by decide) 2 (by decide) w).mono ?_
 rintro e w' ⟨rfl,rfl|⟨t,rfl⟩⟩
 ·exact⟨rfl,Below.refl _ _⟩
 ·exact⟨rfl,Lib.bytesWorld_below _ _ _⟩
theorem yfe (w:World):Calls Tryz.prog 94 #[.string ⟨#[50]⟩] w fun e w'=>e=.returned (.tuple #[.int .i64 2,.bool true])/\Below w.heap.size w w':=by
 have AT:=atoi_2 w
 go_enter Tryz.func94,Tryz.ntmps94
 go_wp2_with (go_at_call 137;(with_reducible refine AT.mono ?_);rintro e w1 ⟨rfl,b1⟩)
 go_quiet (fail)
 go_wp2
 go_ret2
 exact⟨rfl,by (repeat (first|exact zJ _ _|assumption|refine yab ?_ _|refine zL ?_|refine yac ?_ (by assumption)|refine yaa ?_ _|refine zO ?_ (by simp<;>omega) _|refine zP ?_ (by simp<;>omega) _))⟩
theorem yb3 (w:World) (l:List Value) (t:TypeId):∀ j u,l[j]?=some u->(w.alloc (.cells l.toArray t)).cell? ((⟨w.heap.size,0,none⟩:Addr).add j)=some u:=by
 intro j u hj
 have ha:(⟨w.heap.size,0,none⟩:Addr).add j=⟨w.heap.size,j,none⟩:=by unfold Addr.add;split<;>simp_all
 rw[ha,(Bk.new w l.toArray t).cell j,<- hj,List.getElem?_toArray]
def oneS (v:Value):Bool:=match v with
 | .string _=>true
 | _=>false
theorem ydj (l:List Value) (h:l.all oneS=true):∀ u ∈ l,u.oneCell'=true:=by
 intro u hu
 have:=List.all_eq_true.1 h u hu
 cases u<;>first|rfl|cases this
theorem ybk {w:World} {base e n:Nat} {v:Value} {xs:List Value} (h:w.ownsRow base e 1 v (n+1) xs):∃ g cap,v=.slice (some ⟨g,0,none⟩) (n+1) cap/\g<w.heap.size/\n+1<=cap/\∀ j u,xs[j]?=some u->w.cell? ⟨g,0+j,none⟩=some u:=by
 have hcells:=fun g=>h.cells (g:=g)
 rcases h.2 with ⟨_,hn⟩|⟨g,cap,cur,hv,_,hg,hcap,_⟩
 ·omega
 ·refine⟨g,cap,hv,(Array.getElem?_eq_some_iff.1 hg).1,hcap,fun j u hj=>?_⟩
  have:=hcells g (by rw[hv];rfl) j u hj
  have ha:(⟨g,0,none⟩:Addr).add j=⟨g,0+j,none⟩:=by unfold Addr.add;split<;>simp_all
  rwa [ha] at this
theorem yow (b1 o1 c1 b2 o2 c2:Nat) (A3:Option Addr) (c3:Nat) (v4:Value) (w:World) (hc1:1<=c1) (hc2:1<=c2) (hb1:b1<w.heap.size) (hb2:b2<w.heap.size) (e1:w.cell? ⟨b1,o1,none⟩=some (.string ⟨#[116]⟩)) (e2:w.cell? ⟨b2,o2,none⟩=some (.int .i64 2)) (hw:Ws w) :
  Calls Tryz.prog 148 #[.agg #[.string ⟨#[118]⟩,.int .i64 1,.slice (some ⟨b1,o1,none⟩) 1 c1,.slice (some ⟨b2,o2,none⟩) 1 c2,.string ⟨#[48]⟩,.string ⟨#[109]⟩,.slice A3 0 c3,v4]] w fun e w'=>e=.returned (.string ⟨#[118,97,114,32,118,32,105,56,32,40,32,116,32,41,32,40,32,50,32,41,32,48,32,34,109,34]⟩)/\Below w.heap.size w w':=by
 obtain⟨i0,hi,hz0,hz1,hz2⟩:=info_parts Tryz.infoStrC
 have HW:=zh hw
 have hq1:(1:Int)<=(c1:Int):=by omega
 have hq2:(1:Int)<=(c2:Int):=by omega
 have hb2':=hb2
 clear hw hc1 hc2
 go_enter Tryz.func148,Tryz.ntmps148
 go_wp2_with fail
 have hx1:=yaa (Below.refl w.heap.size w) (.cells #[.string ⟨#[118]⟩,.int .i64 1,.slice (some ⟨b1,o1,none⟩) 1 c1,.slice (some ⟨b2,o2,none⟩) 1 c2,.string ⟨#[48]⟩,.string ⟨#[109]⟩,.slice A3 0 c3,v4] 41)
 have hxc:∀ j v,(#[.string ⟨#[118]⟩,.int .i64 1,.slice (some ⟨b1,o1,none⟩) 1 c1,.slice (some ⟨b2,o2,none⟩) 1 c2,.string ⟨#[48]⟩,.string ⟨#[109]⟩,.slice A3 0 c3,v4])[j]?=some v->(w.alloc (.cells #[.string ⟨#[118]⟩,.int .i64 1,.slice (some ⟨b1,o1,none⟩) 1 c1,.slice (some ⟨b2,o2,none⟩) 1 c2,.string ⟨#[48]⟩,.string ⟨#[109]⟩,.slice A3 0 c3,v4] 41)).cell? ⟨w.heap.size,j,none⟩=some v:=fun j v h=>((Bk.new w #[.string ⟨#[118]⟩,.int .i64 1,.slice (some ⟨b1,o1,none⟩) 1 c1,.slice (some ⟨b2,o2,none⟩) 1 c2,.string ⟨#[48]⟩,.string ⟨#[109]⟩,.slice A3 0 c3,v4] 41).cell j).trans h
 have hx3:w.heap.size<(w.alloc (.cells #[.string ⟨#[118]⟩,.int .i64 1,.slice (some ⟨b1,o1,none⟩) 1 c1,.slice (some ⟨b2,o2,none⟩) 1 c2,.string ⟨#[48]⟩,.string ⟨#[109]⟩,.slice A3 0 c3,v4] 41)).heap.size:=by simp
 generalize hwx:w.alloc (.cells #[.string ⟨#[118]⟩,.int .i64 1,.slice (some ⟨b1,o1,none⟩) 1 c1,.slice (some ⟨b2,o2,none⟩) 1 c2,.string ⟨#[48]⟩,.string ⟨#[109]⟩,.slice A3 0 c3,v4] 41)=wx at *
 have HB:=zh (show ∀ w2,Below wx.heap.size wx w2->Below w.heap.size w w2 from fun w2 hb=>hx1.trans (hb.mono hx1.size))
 have HC:=zh (show ∀ w2,Below wx.heap.size wx w2->∀ j v,(#[.string ⟨#[118]⟩,.int .i64 1,.slice (some ⟨b1,o1,none⟩) 1 c1,.slice (some ⟨b2,o2,none⟩) 1 c2,.string ⟨#[48]⟩,.string ⟨#[109]⟩,.slice A3 0 c3,v4])[j]?=some v->w2.cell? ⟨w.heap.size,j,none⟩=some v from fun w2 hb j v h=>(hb.cell (p:=⟨w.heap.size,j,none⟩) hx3).trans (hxc j v h))
 have HZ:=zh hx3
 clear hx1 hxc hx3 hwx
 refine wp_region_noPanic ?_
 have hD:Below wx.heap.size wx wx.drew:=Below.drew (Below.refl _ _)
 refine wp_region_held_drew (S:=fun w'=>(w'.cell? ⟨w.heap.size,0,none⟩=some (.string ⟨#[118]⟩)/\w'.cell? ⟨w.heap.size,1,none⟩=some (.int .i64 1)/\w'.cell? ⟨w.heap.size,2,none⟩=some (.slice (some ⟨b1,o1,none⟩) 1 c1))/\Below w.heap.size w w'/\Below wx.heap.size wx w') (by kernel_rfl) ⟨⟨HC.out _ hD 0 _ rfl,HC.out _ hD 1 _ rfl,HC.out _ hD 2 _ rfl⟩,HB.out _ hD,hD⟩ (fun hHeld=>?_)
 generalize hw0:wx.drew=w0 at hHeld ⊢
 clear hD hw0
 refine tVal 0 9 (.pointer (some ⟨w.heap.size,0,none⟩)) hHeld (by kernel_rfl) (fun w' hSw=>?_) ?_
 ·simp only[List.getElem?_toArray,List.getElem?_cons_zero,Option.map_some,Option.some.injEq];first|(go_simp;done)|(with_reducible rfl)|(go_simp;omega)|(go_simp;go_show;fail)
 simp only[Act.put,zB,zC,zD]
 refine tVal 1 10 (.string ⟨#[118]⟩) hHeld (by kernel_rfl) (fun w' hSw=>?_) ?_
 ·obtain⟨⟨q1,q2,q3⟩,q4,q5⟩:=hSw;simp only[zE,zF,zG,zH,zI];first|(go_simp;done)|(with_reducible rfl)|(go_simp;omega)
 simp only[Act.put,zB,zC,zD]
 refine tVal 3 12 (.pointer (some ⟨w.heap.size,1,none⟩)) hHeld (by kernel_rfl) (fun w' hSw=>?_) ?_
 ·simp only[zE,zF,zG,zH,zI];first|(go_simp;done)|(with_reducible rfl)|(go_simp;omega)
 simp only[Act.put,zB,zC,zD]
 refine tVal 4 13 (.int .i64 1) hHeld (by kernel_rfl) (fun w' hSw=>?_) ?_
 ·obtain⟨⟨q1,q2,q3⟩,q4,q5⟩:=hSw;simp only[zE,zF,zG,zH,zI];first|(go_simp;done)|(with_reducible rfl)|(go_simp;omega)
 simp only[Act.put,zB,zC,zD]
 refine tVal 8 17 (.pointer (some ⟨w.heap.size,2,none⟩)) hHeld (by kernel_rfl) (fun w' hSw=>?_) ?_
 ·simp only[zE,zF,zG,zH,zI];first|(go_simp;done)|(with_reducible rfl)|(go_simp;omega)
 simp only[Act.put,zB,zC,zD]
 refine tVal 9 18 (.slice (some ⟨b1,o1,none⟩) 1 c1) hHeld (by kernel_rfl) (fun w' hSw=>?_) ?_
 ·obtain⟨⟨q1,q2,q3⟩,q4,q5⟩:=hSw;simp only[zE,zF,zG,zH,zI];first|(go_simp;done)|(with_reducible rfl)|(go_simp;omega)
 simp only[Act.put,zB,zC,zD]
 refine tEnter 2 11 139 #[] (by kernel_rfl) (by kernel_rfl) (by kernel_rfl) (ygd w0) ?_
 rintro e w1 ⟨rfl,hw1⟩
 have kT:w1.cell? ⟨w0.heap.size,1,none⟩=some (.string ⟨#[105,56]⟩):=by rw[hw1,(Bk.new w0 typesC 9).cell 1];rfl
 have hb:Below wx.heap.size wx w1:=yac hHeld.2.2 (by rw[hw1];exact yaa (Below.refl _ _) _)
 clear hw1
 refine⟨_,rfl,⟨⟨HC.out _ hb 0 _ rfl,HC.out _ hb 1 _ rfl,HC.out _ hb 2 _ rfl⟩,HB.out _ hb,hb⟩,fun hHeld=>?_⟩
 clear hb
 simp only[Act.put,zB,zC,zD]
 refine tVal 5 14 (.pointer (some ⟨w0.heap.size,1,none⟩)) hHeld (by kernel_rfl) (fun w' hSw=>?_) ?_
 ·simp only[zE,zF,zG,zH,zI];first|(go_simp;done)|(with_reducible rfl)|(go_simp;omega)
 simp only[Act.put,zB,zC,zD]
 refine tDo 6 15 (.string ⟨#[105,56]⟩) w1 (by kernel_rfl) (by kernel_rfl) ?_ hHeld (fun hHeld=>?_)
 ·simp only[zE,zF,zG,zH,zI];first|(go_simp;done)|(with_reducible rfl)|(go_simp;omega)
 simp only[Act.put,zB,zC,zD]
 have hsz1:wx.heap.size<=w1.heap.size:=hHeld.2.2.size
 have hb2:Below wx.heap.size wx (w1.alloc (.cells #[.string ⟨#[118,97,114]⟩,.string ⟨#[118]⟩,.string ⟨#[105,56]⟩,.string ⟨#[40]⟩] 9)):=yaa hHeld.2.2 _
 refine tDo 7 16 (.slice (some ⟨w1.heap.size,0,none⟩) 4 4) (w1.alloc (.cells #[.string ⟨#[118,97,114]⟩,.string ⟨#[118]⟩,.string ⟨#[105,56]⟩,.string ⟨#[40]⟩] 9)) (by kernel_rfl) (by kernel_rfl) ?_ ⟨⟨HC.out _ hb2 0 _ rfl,HC.out _ hb2 1 _ rfl,HC.out _ hb2 2 _ rfl⟩,HB.out _ hb2,hb2⟩ (fun hHeld=>?_)
 ·simp only[zE,zF,zG,zH,zI];first|(go_simp;done)|(with_reducible rfl)|(go_simp;omega)
 simp only[Act.put,zB,zC,zD]
 have hO:(w1.alloc (.cells #[.string ⟨#[118,97,114]⟩,.string ⟨#[118]⟩,.string ⟨#[105,56]⟩,.string ⟨#[40]⟩] 9)).ownsRow wx.heap.size 9 1 (.slice (some ⟨w1.heap.size,0,none⟩) 4 4) 4 [.string ⟨#[118,97,114]⟩,.string ⟨#[118]⟩,.string ⟨#[105,56]⟩,.string ⟨#[40]⟩]:=World.ownsRow_lit w1 #[.string ⟨#[118,97,114]⟩,.string ⟨#[118]⟩,.string ⟨#[105,56]⟩,.string ⟨#[40]⟩] 4 hsz1 (by decide) rfl
 generalize hwy:w1.alloc (.cells #[.string ⟨#[118,97,114]⟩,.string ⟨#[118]⟩,.string ⟨#[105,56]⟩,.string ⟨#[40]⟩] 9)=wy at *
 clear hwy
 have hs:wy.cell? ⟨b1,o1,none⟩=some (.string ⟨#[116]⟩):=((HB.out _ hb2).cell (p:=⟨b1,o1,none⟩) hb1).trans e1
 refine tOp 10 19 _ (by kernel_rfl) rfl rfl (by kernel_rfl) (fun K hK=>?_)
 refine wp_append_own wy (.tmp 16) (.tmp 18) 36 rfl wx.heap.size 9 i0 (.string ⟨#[]⟩) 1 16 Tryz.underlying36 hi hz0 hz1 hz2 rfl (by decide) _ 4 _ rfl hO ⟨b1,o1,none⟩ 1 c1 [.string ⟨#[116]⟩] rfl rfl ?qc2 (ydj _ rfl) (by decide) (by decide) hb2.size ?_
 case qc2=>
  intro j u hj
  match j,hj with
  | 0,hj=>injection hj with hj;rw[<- hj];exact hs
 intro v2 w2 o2' g2 nil2
 have hb3:Below wx.heap.size wx w2:=yan hO hb2 g2
 refine hK v2 w2 ⟨⟨HC.out _ hb3 0 _ rfl,HC.out _ hb3 1 _ rfl,HC.out _ hb3 2 _ rfl⟩,HB.out _ hb3,hb3⟩ (fun hHeld=>?_)
 clear hK K
 simp only[Act.put,zB,zC,zD]
 refine tRun [(11,3,some (v2))] hHeld (by kernel_rfl) ?_
 simp only[runA,Act.put,zB,zC,zD]
 refine wpAnyH_done (by kernel_rfl) (tNoP ?_) _
 have hO0:=zh o2'
 have hB0:=zh hb3
 clear hHeld o2' g2 hb3 hb2 hO hs hsz1 kT nil2
 have k3:w2.cell? ⟨w.heap.size,3,none⟩=some (.slice (some ⟨b2,o2,none⟩) 1 c2):=HC.out w2 hB0.out 3 _ rfl
 obtain⟨g2,cp2,rfl,_⟩:=ybk (n:=4) hO0.out
 have IT:=fun w' (hb:Below w.heap.size w w')=>ysm w' (HW.out.up hb).1
 have QU:=fun w' (hb:Below w.heap.size w w')=>yr0 w' (HW.out.up hb)
 have JO:=zh (show ∀ (wc:World) (g cap:Nat),g<wc.heap.size->11<=cap->(∀ j u,([.string ⟨#[118,97,114]⟩,.string ⟨#[118]⟩,.string ⟨#[105,56]⟩,.string ⟨#[40]⟩,.string ⟨#[116]⟩,.string ⟨#[41]⟩,.string ⟨#[40]⟩,.string ⟨#[50]⟩,.string ⟨#[41]⟩,.string ⟨#[48]⟩,.string ⟨#[34,109,34]⟩])[j]?=some u->wc.cell? ⟨g,0+j,none⟩=some u)->Calls Tryz.prog 98 #[.slice (some ⟨g,0,none⟩) 11 cap,.string ⟨#[32]⟩] wc (fun e w'=>e=.returned (.string ⟨#[118,97,114,32,118,32,105,56,32,40,32,116,32,41,32,40,32,50,32,41,32,48,32,34,109,34]⟩)/\Below wc.heap.size wc w') from fun wc g cap h1 h2 h3=>by
  have h:=Tryz.strings_Join g 0 cap ([⟨#[118,97,114]⟩,⟨#[118]⟩,⟨#[105,56]⟩,⟨#[40]⟩,⟨#[116]⟩,⟨#[41]⟩,⟨#[40]⟩,⟨#[50]⟩,⟨#[41]⟩,⟨#[48]⟩,⟨#[34,109,34]⟩]:List ByteArray) ⟨#[32]⟩ wc (fun j x hj=>h3 j (.string x) (by
   have:(([⟨#[118,97,114]⟩,⟨#[118]⟩,⟨#[105,56]⟩,⟨#[40]⟩,⟨#[116]⟩,⟨#[41]⟩,⟨#[40]⟩,⟨#[50]⟩,⟨#[41]⟩,⟨#[48]⟩,⟨#[34,109,34]⟩]:List ByteArray).map Value.string)[j]?=some (.string x):=by rw[List.getElem?_map,hj];rfl
   exact this)) h1 (by decide) h2 (by decide +kernel)
  have e:(⟨(Lib.join ((([⟨#[118,97,114]⟩,⟨#[118]⟩,⟨#[105,56]⟩,⟨#[40]⟩,⟨#[116]⟩,⟨#[41]⟩,⟨#[40]⟩,⟨#[50]⟩,⟨#[41]⟩,⟨#[48]⟩,⟨#[34,109,34]⟩]:List ByteArray)).map (·.data.toList)) [32]).toArray⟩:ByteArray)=⟨#[118,97,114,32,118,32,105,56,32,40,32,116,32,41,32,40,32,50,32,41,32,48,32,34,109,34]⟩:=by decide +kernel
  rw[show (⟨#[32]⟩:ByteArray).data.toList=[32] from rfl,e] at h
  exact h)
 go_wp2_with (at_builtin;refine wpList_append_own_at _ rfl (.tmp 20) (.tmp 21) _ rfl wx.heap.size 9 i0 (.string ⟨#[]⟩) 1 16 Tryz.underlying36 hi hz0 hz1 hz2 rfl (by decide) _ _ _ rfl (hO0.out.alloc _) ⟨w2.heap.size,0,none⟩ 2 2 [.string ⟨#[41]⟩,.string ⟨#[40]⟩] rfl rfl (yb3 _ _ _) (ydj _ rfl) (by decide) (by decide) (yaa hB0.out _).size ?_;intro v3 w3 a2 g2 m2 l2;have hB1:=zh (yan (hO0.out.alloc _) (yaa hB0.out _) g2);have hO1:=zh a2;clear a2 g2 m2 l2;obtain⟨g3,cp3,rfl,f3⟩:=ybk (n:=6) hO1.out;have F3:=zh f3;clear f3;have k3:w3.cell? ⟨w.heap.size,3,none⟩=some (.slice (some ⟨b2,o2,none⟩) 1 c2):=HC.out w3 hB1.out 3 _ rfl;have d2:w3.cell? ⟨b2,o2,none⟩=some (.int .i64 2):=((HB.out _ hB1.out).cell (p:=⟨b2,o2,none⟩) hb2').trans e2)
 refine wp_loop_rounds 2 ?_
 rw[rounds_succ]
 go_wp2_with (first|(go_at_call 146;(with_reducible refine(IT _ (HB.out _ hB1.out)).mono ?_);rintro e w4 ⟨rfl,hb⟩;have hB2:=zh (yac hB1.out hb);have hO2:=zh (yal hO1.out hb);clear hb)|(at_builtin;refine wpList_append_own_at _ rfl (.tmp 30) (.tmp 33) _ rfl wx.heap.size 9 i0 (.string ⟨#[]⟩) 1 16 Tryz.underlying36 hi hz0 hz1 hz2 rfl (by decide) _ _ _ rfl (hO2.out.alloc _) ⟨w4.heap.size,0,none⟩ 1 1 [.string ⟨#[50]⟩] rfl rfl (yb3 _ _ _) (ydj _ rfl) (by decide) (by decide) (yaa hB2.out _).size ?_;intro v5 w5 a2 g2 m2 l2;have hB3:=zh (yan (hO2.out.alloc _) (yaa hB2.out _) g2);have hO3:=zh a2;clear a2 g2 m2 l2;obtain⟨g5,cp5,rfl,f5⟩:=ybk (n:=7) hO3.out;have F5:=zh f5;clear f5;have k4:w5.cell? ⟨w.heap.size,4,none⟩=some (.string ⟨#[48]⟩):=HC.out w5 hB3.out 4 _ rfl;have k5:w5.cell? ⟨w.heap.size,5,none⟩=some (.string ⟨#[109]⟩):=HC.out w5 hB3.out 5 _ rfl))
 rw[rounds_succ]
 go_wp2_with (first|(go_at_call 186;(with_reducible refine(QU _ (HB.out _ hB3.out)).mono ?_);rintro e w6 ⟨rfl,hb⟩;have hB4:=zh (yac hB3.out hb);have hO4:=zh (yal hO3.out hb);clear hb)|(at_builtin;refine wpList_append_own_at _ rfl (.tmp 40) (.tmp 45) _ rfl wx.heap.size 9 i0 (.string ⟨#[]⟩) 1 16 Tryz.underlying36 hi hz0 hz1 hz2 rfl (by decide) _ _ _ rfl (hO4.out.alloc _) ⟨w6.heap.size,0,none⟩ 3 3 [.string ⟨#[41]⟩,.string ⟨#[48]⟩,.string ⟨#[34,109,34]⟩] rfl rfl (yb3 _ _ _) (ydj _ rfl) (by decide) (by decide) (yaa hB4.out _).size ?_;intro v7 w7 a2 g2 m2 l2;have hB5:=zh (yan (hO4.out.alloc _) (yaa hB4.out _) g2);have hO5:=zh a2;clear a2 g2 m2 l2;obtain⟨g7,cp7,rfl,f7⟩:=ybk (n:=10) hO5.out;have F7:=zh f7;clear f7;have k6:w7.cell? ⟨w.heap.size,6,none⟩=some (.slice A3 0 c3):=HC.out w7 hB5.out 6 _ rfl))
 have JP:=JO.out w7 g7 cp7 F7.out.1 F7.out.2.1 F7.out.2.2
 refine wp_loop_rounds 1 ?_
 rw[rounds_succ]
 go_wp2_with (go_at_call 98;(with_reducible refine JP.mono ?_);rintro e w8 ⟨rfl,hb⟩;have hB6:=zh (yac hB5.out hb);clear hb)
 go_ret
 exact⟨rfl,HB.out _ hB6.out⟩
theorem yqg (w:World) (hw:Ws w):Calls Tryz.prog 93 #[.string ⟨#[118,32,105,56,32,40,32,116,32,41,32,40,32,50,32,41,32,48,32,34,109,34]⟩,.string ⟨#[32,34]⟩] w fun e w'=>e=.returned (.tuple #[.string ⟨#[118,32,105,56,32,40,32,116,32,41,32,40,32,50,32,41,32,48]⟩,.string ⟨#[109,34]⟩,.bool true])/\Below w.heap.size w w':=by
 obtain⟨mx,hmx⟩:=hw.2.2
 refine(Tryz.strings_Cut ⟨#[118,32,105,56,32,40,32,116,32,41,32,40,32,50,32,41,32,48,32,34,109,34]⟩ ⟨#[32,34]⟩ mx w (by decide) hmx).mono ?_
 rintro e w' ⟨rfl,k,rfl⟩
 have h:Lib.cut (⟨#[118,32,105,56,32,40,32,116,32,41,32,40,32,50,32,41,32,48,32,34,109,34]⟩:ByteArray).data.toList (⟨#[32,34]⟩:ByteArray).data.toList=([118,32,105,56,32,40,32,116,32,41,32,40,32,50,32,41,32,48],[109,34],true):=by decide +kernel
 rw[h]
 exact⟨rfl,by (repeat (first|exact zJ _ _|assumption|refine yab ?_ _|refine zL ?_|refine yac ?_ (by assumption)|refine yaa ?_ _|refine zO ?_ (by simp<;>omega) _|refine zP ?_ (by simp<;>omega) _))⟩
theorem ymz (w:World) (hw:Ws w):Calls Tryz.prog 35 #[.string ⟨#[118,32,105,56,32,40,32,116,32,41,32,40,32,50,32,41,32,48]⟩,.string ⟨#[32]⟩] w fun e w'=>e=.returned (.slice (some ⟨w.heap.size,0,none⟩) 9 9)/\w'=w.alloc (.cells #[.string ⟨#[118]⟩,.string ⟨#[105,56]⟩,.string ⟨#[40]⟩,.string ⟨#[116]⟩,.string ⟨#[41]⟩,.string ⟨#[40]⟩,.string ⟨#[50]⟩,.string ⟨#[41]⟩,.string ⟨#[48]⟩] 9):=by
 obtain⟨mx,hmx⟩:=hw.2.2
 refine(Tryz.strings_Split ⟨#[118,32,105,56,32,40,32,116,32,41,32,40,32,50,32,41,32,48]⟩ ⟨#[32]⟩ mx w (by decide) hmx (by decide)).mono ?_
 rintro e w' ⟨rfl,rfl⟩
 have h1:Lib.countB ⟨#[118,32,105,56,32,40,32,116,32,41,32,40,32,50,32,41,32,48]⟩ ⟨#[32]⟩=8:=by decide +kernel
 have h2:Lib.splitB ⟨#[32]⟩ 0 8 ⟨#[118,32,105,56,32,40,32,116,32,41,32,40,32,50,32,41,32,48]⟩=([⟨#[118]⟩,⟨#[105,56]⟩,⟨#[40]⟩,⟨#[116]⟩,⟨#[41]⟩,⟨#[40]⟩,⟨#[50]⟩,⟨#[41]⟩,⟨#[48]⟩]:List ByteArray):=by decide +kernel
 rw[h1,h2]
 exact⟨rfl,rfl⟩
theorem ypq (g:Nat) (w:World) (h:Bk w g typesC 9):Calls Tryz.prog 68 #[.slice (some ⟨g,0,none⟩) 6 6,.string ⟨#[105,56]⟩] w fun e w'=>e=.returned (.int .i64 1)/\w=w':=by
 refine(Tryz.slices_Index_string g 0 6 6 [⟨#[]⟩,⟨#[105,56]⟩,⟨#[105,49,54]⟩,⟨#[105,51,50]⟩,⟨#[105,54,52]⟩,⟨#[110,117,109]⟩] ⟨#[105,56]⟩ w (by decide) (by decide) (fun j hj=>?_)).mono ?_
 ·rw[Nat.zero_add,h.cell j]
  match j,hj with
  | 0,_=>rfl
  | 1,_=>rfl
  | 2,_=>rfl
  | 3,_=>rfl
  | 4,_=>rfl
  | 5,_=>rfl
 ·rintro e w' ⟨rfl,rfl⟩
  refine⟨?_,rfl⟩
  have:Lib.idxOfS (List.take 6 [⟨#[]⟩,⟨#[105,56]⟩,⟨#[105,49,54]⟩,⟨#[105,51,50]⟩,⟨#[105,54,52]⟩,⟨#[110,117,109]⟩]) ⟨#[105,56]⟩=1:=by decide +kernel
  rw[this]
theorem size_setCell (w:World) (a:Addr) (v:Value):(w.setCell a v).heap.size=w.heap.size:=by simp
theorem yae (w:World) (g i k:Nat) {v:Value} (h:k≠g):(w.setCell ⟨g,i,none⟩ v).heap[k]?=w.heap[k]?:=by
 simp only[World.setCell,Array.getElem?_modify]
 rw[if_neg (fun e=>h e.symm)]
theorem ybu {w:World} {g:Nat} {C:Array Value} {t:TypeId} (h:Bk w g C t):w.rangeAt g 0 C.toList:=fun j v hj=>by
 rw[Nat.zero_add,h.cell j,<- hj,Array.getElem?_toList]
theorem yoe (g:Nat):(⟨g,0,none⟩:Addr).add 0=⟨g,0,none⟩:=by unfold Addr.add;split<;>simp_all
theorem ypn {t:TypeId} {base B:Nat} {w:World} {A:Option Addr} {d:Nat} {x:ByteArray} (h:OL kStr 1 t base w B (.slice A 1 d) [x]):∃ g,A=some ⟨g,0,none⟩/\base<=g/\g<w.heap.size/\w.cell? ⟨g,0,none⟩=some (.string x):=by
 obtain⟨rows,h1,h2,h3⟩:=h
 obtain⟨vs,e1,_,rfl,_⟩:=h2 0 x rfl
 have hr:rows=[[.string x]]:=by
  match rows,h1,e1 with
  | [r],_,e1=>injection e1 with e1;rw[e1]
 subst hr
 have hcells:=fun g=>h3.cells (g:=g)
 rcases h3.2 with ⟨_,hn⟩|⟨g,cap,cur,hv,hb,hg,_⟩
 ·cases hn
 ·injection hv with hv _ _
  subst hv
  refine⟨g,rfl,hb,(Array.getElem?_eq_some_iff.1 hg).1,?_⟩
  have:=hcells g rfl 0 (.string x) rfl
  rwa [yoe] at this
theorem yfp (w:World) {v:Value} (h:v=.slice none 0 0):w.ownsRow w.heap.size 3 1 v 0 []:=by
 rw[h];exact World.ownsRow_nil _ _ _ _
theorem ykn {w:World} {base:Nat} {v:Value} (h:w.ownsRow base 3 1 v (0+1) ([]++[iV 2])):OL kInt 1 3 base w 0 v [2]:=
 ⟨[[iV 2]],rfl,fun k x hk=>by
  match k,hk with
  | 0,hk=>injection hk with hk;subst hk;exact⟨[iV 2],rfl,rfl,rfl,by decide,by decide⟩,h⟩
theorem yiu (g:Nat) (w:World) (h:Bk w g #[.string ⟨#[118]⟩,.string ⟨#[105,56]⟩,.string ⟨#[40]⟩,.string ⟨#[116]⟩,.string ⟨#[41]⟩,.string ⟨#[40]⟩,.string ⟨#[50]⟩,.string ⟨#[41]⟩,.string ⟨#[48]⟩] 9):Calls Tryz.prog 68 #[.slice (some ⟨g,2,none⟩) 7 7,.string ⟨#[41]⟩] w fun e w'=>e=.returned (.int .i64 2)/\w=w':=by
 refine(Tryz.slices_Index_string g 2 7 7 ([⟨#[40]⟩,⟨#[116]⟩,⟨#[41]⟩,⟨#[40]⟩,⟨#[50]⟩,⟨#[41]⟩,⟨#[48]⟩]:List ByteArray) ⟨#[41]⟩ w (by decide) (by decide) (fun j hj=>?_)).mono ?_
 ·rw[h.cell (2+j)]
  match j,hj with
  | 0,_=>rfl
  | 1,_=>rfl
  | 2,_=>rfl
  | 3,_=>rfl
  | 4,_=>rfl
  | 5,_=>rfl
  | 6,_=>rfl
 ·rintro e w' ⟨rfl,rfl⟩
  refine⟨?_,rfl⟩
  have:Lib.idxOfS (List.take 7 ([⟨#[40]⟩,⟨#[116]⟩,⟨#[41]⟩,⟨#[40]⟩,⟨#[50]⟩,⟨#[41]⟩,⟨#[48]⟩]:List ByteArray)) ⟨#[41]⟩=2:=by decide +kernel
  rw[this]
theorem yhv (g:Nat) (w:World) (h:Bk w g #[.string ⟨#[118]⟩,.string ⟨#[105,56]⟩,.string ⟨#[40]⟩,.string ⟨#[116]⟩,.string ⟨#[41]⟩,.string ⟨#[40]⟩,.string ⟨#[50]⟩,.string ⟨#[41]⟩,.string ⟨#[48]⟩] 9):Calls Tryz.prog 68 #[.slice (some ⟨g,5,none⟩) 4 4,.string ⟨#[41]⟩] w fun e w'=>e=.returned (.int .i64 2)/\w=w':=by
 refine(Tryz.slices_Index_string g 5 4 4 ([⟨#[40]⟩,⟨#[50]⟩,⟨#[41]⟩,⟨#[48]⟩]:List ByteArray) ⟨#[41]⟩ w (by decide) (by decide) (fun j hj=>?_)).mono ?_
 ·rw[h.cell (5+j)]
  match j,hj with
  | 0,_=>rfl
  | 1,_=>rfl
  | 2,_=>rfl
  | 3,_=>rfl
 ·rintro e w' ⟨rfl,rfl⟩
  refine⟨?_,rfl⟩
  have:Lib.idxOfS (List.take 4 ([⟨#[40]⟩,⟨#[50]⟩,⟨#[41]⟩,⟨#[48]⟩]:List ByteArray)) ⟨#[41]⟩=2:=by decide +kernel
  rw[this]
theorem ype (w:World) (hw:Ws w):Calls Tryz.prog 96 #[.string ⟨#[118,32,105,56,32,40,32,116,32,41,32,40,32,50,32,41,32,48,32,34,109,34]⟩] w fun e w'=>∃ E1 d1 E2 d2,e=.returned (.tuple #[.agg #[.string ⟨#[118]⟩,.int .i64 1,.slice E1 1 d1,.slice E2 1 d2,.string ⟨#[48]⟩,.string ⟨#[109]⟩,.slice none 0 0,.slice none 0 0],.bool true])/\OL kStr 1 9 w.heap.size w' 0 (.slice E1 1 d1) [⟨#[116]⟩]/\OL kInt 1 3 w.heap.size w' 0 (.slice E2 1 d2) [2]/\Below w.heap.size w w':=by
 have CU:=fun w' (hb:Below w.heap.size w w')=>yqg w' (hw.up hb)
 have SP:=fun w' (hb:Below w.heap.size w w')=>ymz w' (hw.up hb)
 clear hw
 go_enter Tryz.func96,Tryz.ntmps96
 go_wp2_with (first
  | (go_at_call 35;(with_reducible refine(SP _ p1).mono ?_);rintro e w2 ⟨rfl,hw2⟩;have KW:=zh (show Bk w2 w1.heap.size #[.string ⟨#[118]⟩,.string ⟨#[105,56]⟩,.string ⟨#[40]⟩,.string ⟨#[116]⟩,.string ⟨#[41]⟩,.string ⟨#[40]⟩,.string ⟨#[50]⟩,.string ⟨#[41]⟩,.string ⟨#[48]⟩] 9/\Bk w2 w.heap.size #[.string ⟨#[]⟩,.int .i64 0,.slice none 0 0,.slice none 0 0,.string ⟨#[]⟩,.string ⟨#[]⟩,.slice none 0 0,.slice none 0 0] 41/\Below w.heap.size w w2 from by rw[hw2];exact⟨Bk.new w1 _ _,KZ.out.alloc,yaa p1 _⟩);clear hw2)
  | (go_at_call 93;(with_reducible refine(CU _ (by (repeat (first|exact zJ _ _|assumption|refine yab ?_ _|refine zL ?_|refine yac ?_ (by assumption)|refine yaa ?_ _|refine zO ?_ (by simp<;>omega) _|refine zP ?_ (by simp<;>omega) _)))).mono ?_);rintro e w1 ⟨rfl,hb⟩;have KZ:=zh (Bk.up (Bk.new w #[.string ⟨#[]⟩,.int .i64 0,.slice none 0 0,.slice none 0 0,.string ⟨#[]⟩,.string ⟨#[]⟩,.slice none 0 0,.slice none 0 0] 41) hb);have p1:Below w.heap.size w w1:=(by (repeat (first|exact zJ _ _|assumption|refine yab ?_ _|refine zL ?_|refine yac ?_ (by assumption)|refine yaa ?_ _|refine zO ?_ (by simp<;>omega) _|refine zP ?_ (by simp<;>omega) _)));clear hb))
 have KW2:=KW.out.1
 have KZ2:=KW.out.2.1
 have p2:=KW.out.2.2
 clear KW KZ CU SP
 generalize w1.heap.size=gW at *
 have HB:=zh (show ∀ w',Below w2.heap.size w2 w'->Bk w' gW #[.string ⟨#[118]⟩,.string ⟨#[105,56]⟩,.string ⟨#[40]⟩,.string ⟨#[116]⟩,.string ⟨#[41]⟩,.string ⟨#[40]⟩,.string ⟨#[50]⟩,.string ⟨#[41]⟩,.string ⟨#[48]⟩] 9/\Bk w' w.heap.size #[.string ⟨#[]⟩,.int .i64 0,.slice none 0 0,.slice none 0 0,.string ⟨#[]⟩,.string ⟨#[]⟩,.slice none 0 0,.slice none 0 0] 41/\Below w.heap.size w w' from fun w' hb=>⟨KW2.up hb,KZ2.up hb,p2.trans (hb.mono p2.size)⟩)
 have hD:Below w2.heap.size w2 w2.drew:=Below.drew (Below.refl _ _)
 refine wp_region_noPanic ?_
 refine wp_region_held_drew (S:=fun w'=>Bk w' gW #[.string ⟨#[118]⟩,.string ⟨#[105,56]⟩,.string ⟨#[40]⟩,.string ⟨#[116]⟩,.string ⟨#[41]⟩,.string ⟨#[40]⟩,.string ⟨#[50]⟩,.string ⟨#[41]⟩,.string ⟨#[48]⟩] 9/\Bk w' w.heap.size #[.string ⟨#[]⟩,.int .i64 0,.slice none 0 0,.slice none 0 0,.string ⟨#[]⟩,.string ⟨#[]⟩,.slice none 0 0,.slice none 0 0] 41/\Below w2.heap.size w2 w') (by kernel_rfl) ⟨(HB.out _ hD).1,(HB.out _ hD).2.1,hD⟩ (fun hHeld=>?_)
 generalize hw0:w2.drew=w0 at hHeld ⊢
 clear hw0 hD KW2 KZ2
 refine tRun [(0,37,some (.slice (some ⟨gW,0,none⟩) 9 9))] hHeld (by kernel_rfl) ?_
 simp only[runA,Act.put,zB,zC,zD]
 refine tVal 1 38 (.pointer (some ⟨gW,0,none⟩)) hHeld (by kernel_rfl) (fun w' hSw=>?_) ?_
 ·simp only[zE,zF,zG,zH,zI];first|(go_simp;done)|(with_reducible rfl)|(go_simp;omega)
 simp only[Act.put,zB,zC,zD]
 refine tVal 2 39 (.string ⟨#[118]⟩) hHeld (by kernel_rfl) (fun w' hSw=>?_) ?_
 ·have q1:=hSw.1.cell 0;simp only[List.getElem?_toArray,List.getElem?_cons_zero] at q1;simp only[zE,zF,zG,zH,zI];first|(go_simp;done)|(with_reducible rfl)|(go_simp;omega)
 simp only[Act.put,zB,zC,zD]
 refine tRun [(4,41,some (.slice (some ⟨gW,0,none⟩) 9 9))] hHeld (by kernel_rfl) ?_
 simp only[runA,Act.put,zB,zC,zD]
 refine tVal 5 42 (.pointer (some ⟨gW,1,none⟩)) hHeld (by kernel_rfl) (fun w' hSw=>?_) ?_
 ·simp only[zE,zF,zG,zH,zI];first|(go_simp;done)|(with_reducible rfl)|(go_simp;omega)
 simp only[Act.put,zB,zC,zD]
 refine tVal 6 43 (.string ⟨#[105,56]⟩) hHeld (by kernel_rfl) (fun w' hSw=>?_) ?_
 ·have q1:=hSw.1.cell 1;simp only[List.getElem?_toArray,List.getElem?_cons_succ,List.getElem?_cons_zero] at q1;simp only[zE,zF,zG,zH,zI];first|(go_simp;done)|(with_reducible rfl)|(go_simp;omega)
 simp only[Act.put,zB,zC,zD]
 refine rTwo 3 9 (by kernel_rfl) ?_ ?_
 ·refine eEnter (d:=40) 139 #[] (by kernel_rfl) (by kernel_rfl) (ygd w0) ?_
  rintro e w3 ⟨rfl,hw3⟩
  have KT:Bk w3 w0.heap.size typesC 9:=by rw[hw3];exact Bk.new w0 _ _
  have hb:Below w0.heap.size w0 w3:=by rw[hw3];exact yaa (Below.refl _ _) _
  clear hw3
  refine⟨_,rfl,⟨Bk.up hHeld.1 hb,Bk.up hHeld.2.1 hb,yac hHeld.2.2 hb⟩,fun hHeld=>?_⟩
  simp only[Act.put,zB,zC,zD]
  have KT:=zh KT
  clear hb
  generalize w0.heap.size=gT at *
  refine rTwo 7 9 (by kernel_rfl) ?_ ?_
  ·refine eEnter (d:=44) 68 #[.slice (some ⟨gT,0,none⟩) 6 6,.string ⟨#[105,56]⟩] (by kernel_rfl) (by kernel_rfl) (ypq _ w3 KT.out) ?_
   rintro e w3 ⟨rfl,rfl⟩
   refine⟨_,rfl,hHeld,fun hHeld=>?_⟩
   simp only[Act.put,zB,zC,zD]
   refine tVal 8 45 (.agg #[.string ⟨#[118]⟩,.int .i64 1,.slice none 0 0,.slice none 0 0,.string ⟨#[]⟩,.string ⟨#[]⟩,.slice none 0 0,.slice none 0 0]) hHeld (by kernel_rfl) (fun w' hSw=>?_) ?_
   ·simp only[zE,zF,zG,zH,zI];first|(go_simp;done)|(with_reducible rfl)|(go_simp;omega)
   simp only[Act.put,zB,zC,zD]
   have hb:Below w3.heap.size w3 (w3.alloc (.cells #[.string ⟨#[]⟩,.int .i64 0,.slice none 0 0,.slice none 0 0,.string ⟨#[]⟩,.string ⟨#[]⟩,.slice none 0 0,.slice none 0 0] 41)):=yaa (Below.refl _ _) _
   have K8:Bk (w3.alloc (.cells #[.string ⟨#[]⟩,.int .i64 0,.slice none 0 0,.slice none 0 0,.string ⟨#[]⟩,.string ⟨#[]⟩,.slice none 0 0,.slice none 0 0] 41)) w3.heap.size #[.string ⟨#[]⟩,.int .i64 0,.slice none 0 0,.slice none 0 0,.string ⟨#[]⟩,.string ⟨#[]⟩,.slice none 0 0,.slice none 0 0] 41:=Bk.new w3 _ _
   have hv8:w2.heap.size<=w3.heap.size:=hHeld.2.2.size
   refine tDo 9 8 (.pointer (some ⟨w3.heap.size,0,none⟩)) (w3.alloc (.cells #[.string ⟨#[]⟩,.int .i64 0,.slice none 0 0,.slice none 0 0,.string ⟨#[]⟩,.string ⟨#[]⟩,.slice none 0 0,.slice none 0 0] 41)) (by kernel_rfl) (by kernel_rfl) ?_ ⟨Bk.up hHeld.1 hb,Bk.up hHeld.2.1 hb,yac hHeld.2.2 hb⟩ (fun hHeld=>?_)
   ·simp only[zE,zF,zG,zH,zI];first|(go_simp;done)|(with_reducible rfl)|(go_simp;omega)
   simp only[Act.put,zB,zC,zD]
   generalize hwq:w3.alloc (.cells #[.string ⟨#[]⟩,.int .i64 0,.slice none 0 0,.slice none 0 0,.string ⟨#[]⟩,.string ⟨#[]⟩,.slice none 0 0,.slice none 0 0] 41)=wq at *
   generalize w3.heap.size=gv at *
   clear hwq hb
   have Bs:Below w2.heap.size w2 (wq.setRow gv #[.string ⟨#[118]⟩,.int .i64 1,.slice none 0 0,.slice none 0 0,.string ⟨#[]⟩,.string ⟨#[]⟩,.slice none 0 0,.slice none 0 0]):=yby hHeld.2.2 hv8 _
   refine tStoreRow 10 41 (.tmp 8) (.tmp 45) gv #[.string ⟨#[118]⟩,.int .i64 1,.slice none 0 0,.slice none 0 0,.string ⟨#[]⟩,.string ⟨#[]⟩,.slice none 0 0,.slice none 0 0] 41 #[.string ⟨#[]⟩,.int .i64 0,.slice none 0 0,.slice none 0 0,.string ⟨#[]⟩,.string ⟨#[]⟩,.slice none 0 0,.slice none 0 0] (by kernel_rfl) (by kernel_rfl) (by kernel_rfl) rfl rfl K8 (by kernel_rfl) rfl (by simp[Value.oneCell']) ⟨(HB.out _ Bs).1,(HB.out _ Bs).2.1,Bs⟩ (fun hHeld=>?_)
   have K9:=zh (K8.row #[.string ⟨#[118]⟩,.int .i64 1,.slice none 0 0,.slice none 0 0,.string ⟨#[]⟩,.string ⟨#[]⟩,.slice none 0 0,.slice none 0 0])
   have B9:=zh Bs
   clear hHeld Bs K8
   generalize hwr:wq.setRow gv #[.string ⟨#[118]⟩,.int .i64 1,.slice none 0 0,.slice none 0 0,.string ⟨#[]⟩,.string ⟨#[]⟩,.slice none 0 0,.slice none 0 0]=wr at *
   clear hwr
   refine wpAnyH_done (by kernel_rfl) (tNoP ?_) _
   have hgv:gv<wr.heap.size:=K9.out.lt
   have LS1:=(show Calls Tryz.prog 140 #[.slice (some ⟨gW,2,none⟩) 7 7] wr (fun e w'=>∃ A d,e=.returned (.tuple #[.slice A 1 d,.slice (some ⟨gW,5,none⟩) 4 4,.bool true])/\OL kStr 1 9 wr.heap.size w' 0 (.slice A 1 d) [⟨#[116]⟩]/\Below wr.heap.size wr w') from yef gW 2 7 7 ⟨#[116]⟩ wr (by decide) (by decide) (by decide) (HB.out _ B9.out).1.lt (by decide) ((HB.out _ B9.out).1.cell 2) ((HB.out _ B9.out).1.cell 3) (yiu gW wr (HB.out _ B9.out).1))
   have LS2:=fun w' (hb:Below w2.heap.size w2 w')=>(show Calls Tryz.prog 140 #[.slice (some ⟨gW,5,none⟩) 4 4] w' (fun e w3=>∃ A d,e=.returned (.tuple #[.slice A 1 d,.slice (some ⟨gW,8,none⟩) 1 1,.bool true])/\OL kStr 1 9 w'.heap.size w3 0 (.slice A 1 d) [⟨#[50]⟩]/\Below w'.heap.size w' w3) from yef gW 5 4 4 ⟨#[50]⟩ w' (by decide) (by decide) (by decide) (HB.out _ hb).1.lt (by decide) ((HB.out _ hb).1.cell 5) ((HB.out _ hb).1.cell 6) (yhv gW w' (HB.out _ hb).1))
   go_wp2_with (first
    | (go_at_call 140;(with_reducible refine(LS2 _ B10.out).mono ?_);rintro e w6 ⟨A2,d2,rfl,o2,hb⟩;have O2:=zh o2;have O1:=zh (O1.out.up yaf hb (B':=0));have K11:=zh (K10.out.up hb);have B11:=zh (yac B10.out hb);have z6:wr.heap.size<=w6.heap.size:=Nat.le_trans z5 hb.size;clear o2 hb)
    | (go_at_call 140;(with_reducible refine LS1.mono ?_);rintro e w5 ⟨A1,d1,rfl,o1,hb⟩;have O1:=zh o1;have K10:=zh (K9.out.up hb);have B10:=zh (yac B9.out hb);have z5:wr.heap.size<=w5.heap.size:=hb.size;clear o1 hb))
   clear LS1 LS2
   have hD:Below w6.heap.size w6 w6.drew:=Below.drew (Below.refl _ _)
   refine wp_region_noPanic ?_
   refine wp_region_held_drew (S:=fun w'=>Bk w' gW #[.string ⟨#[118]⟩,.string ⟨#[105,56]⟩,.string ⟨#[40]⟩,.string ⟨#[116]⟩,.string ⟨#[41]⟩,.string ⟨#[40]⟩,.string ⟨#[50]⟩,.string ⟨#[41]⟩,.string ⟨#[48]⟩] 9/\Below w2.heap.size w2 w') (by kernel_rfl) ⟨(HB.out _ (yac B11.out hD)).1,yac B11.out hD⟩ (fun hHeld=>?_)
   have K11:=zh (K11.out.up hD)
   have O1:=zh (O1.out.up yaf hD (B':=0))
   have O2:=zh (O2.out.up yaf hD (B':=0))
   have z6:wr.heap.size<=w6.drew.heap.size:=Nat.le_trans z6 hD.size
   clear hD
   generalize hw0:w6.drew=wd at *
   clear hw0
   refine tRun [(0,70,some (.slice A1 1 d1)),(1,71,some (.slice (some ⟨gW,8,none⟩) 1 1))] hHeld (by kernel_rfl) ?_
   simp only[runA,Act.put,zB,zC,zD]
   refine tVal 2 72 (.pointer (some ⟨gW,8,none⟩)) hHeld (by kernel_rfl) (fun w' hSw=>?_) ?_
   ·simp only[zE,zF,zG,zH,zI];first|(go_simp;done)|(with_reducible rfl)|(go_simp;omega)
   simp only[Act.put,zB,zC,zD]
   refine tVal 3 73 (.string ⟨#[48]⟩) hHeld (by kernel_rfl) (fun w' hSw=>?_) ?_
   ·have q1:=hSw.1.cell 8;simp only[List.getElem?_toArray,List.getElem?_cons_succ,List.getElem?_cons_zero] at q1;simp only[zE,zF,zG,zH,zI];first|(go_simp;done)|(with_reducible rfl)|(go_simp;omega)
   simp only[Act.put,zB,zC,zD]
   refine tVal 4 74 (.pointer (some ⟨gv,2,none⟩)) hHeld (by kernel_rfl) (fun w' hSw=>?_) ?_
   ·simp only[zE,zF,zG,zH,zI];first|(go_simp;done)|(with_reducible rfl)|(go_simp;omega)
   simp only[Act.put,zB,zC,zD]
   have q1:=K11.out.cell 2
   have q2:=K11.out.frozen 2
   simp only[List.getElem?_toArray,List.getElem?_cons_succ,List.getElem?_cons_zero] at q1
   have K12:=zh (show Bk (wd.setCell ⟨gv,2,none⟩ (.slice A1 1 d1)) gv #[.string ⟨#[118]⟩,.int .i64 1,.slice A1 1 d1,.slice none 0 0,.string ⟨#[]⟩,.string ⟨#[]⟩,.slice none 0 0,.slice none 0 0] 41 from K11.out.set _)
   have hb:Below w2.heap.size w2 (wd.setCell ⟨gv,2,none⟩ (.slice A1 1 d1)):=by have hb0:=hHeld.2;(repeat (first|exact zJ _ _|assumption|refine yab ?_ _|refine zL ?_|refine yac ?_ (by assumption)|refine yaa ?_ _|refine zO ?_ (by simp<;>omega) _|refine zP ?_ (by simp<;>omega) _))
   refine tStore 5 (wd.setCell ⟨gv,2,none⟩ (.slice A1 1 d1)) (by kernel_rfl) (by kernel_rfl) ?_ ⟨(HB.out _ hb).1,hb⟩ (fun hHeld=>?_)
   ·simp only[zE,zF,zG,zH,zI];first|(go_simp;done)|(with_reducible rfl)|(go_simp;omega)
   clear q1 q2 hb
   have O1:=zh (O1.out.blocks yaf (w':=wd.setCell ⟨gv,2,none⟩ (.slice A1 1 d1)) (B':=0) (fun g h1 _=>yae _ _ _ _ (by omega)))
   have O2:=zh (O2.out.base (base':=wr.heap.size) (by assumption) |>.blocks yaf (w':=wd.setCell ⟨gv,2,none⟩ (.slice A1 1 d1)) (B':=0) (fun g h1 _=>yae _ _ _ _ (by omega)))
   have z6b:wr.heap.size<=(wd.setCell ⟨gv,2,none⟩ (.slice A1 1 d1)).heap.size:=by simp only[size_setCell];exact z6
   generalize hwe:wd.setCell ⟨gv,2,none⟩ (.slice A1 1 d1)=we at *
   clear hwe
   refine tVal 6 75 (.pointer (some ⟨gv,4,none⟩)) hHeld (by kernel_rfl) (fun w' hSw=>?_) ?_
   ·simp only[zE,zF,zG,zH,zI];first|(go_simp;done)|(with_reducible rfl)|(go_simp;omega)
   simp only[Act.put,zB,zC,zD]
   have q1:=K12.out.cell 4
   have q2:=K12.out.frozen 4
   simp only[List.getElem?_toArray,List.getElem?_cons_succ,List.getElem?_cons_zero] at q1
   have K13:=zh (show Bk (we.setCell ⟨gv,4,none⟩ (.string ⟨#[48]⟩)) gv #[.string ⟨#[118]⟩,.int .i64 1,.slice A1 1 d1,.slice none 0 0,.string ⟨#[48]⟩,.string ⟨#[]⟩,.slice none 0 0,.slice none 0 0] 41 from K12.out.set _)
   have hb:Below w2.heap.size w2 (we.setCell ⟨gv,4,none⟩ (.string ⟨#[48]⟩)):=by have hb0:=hHeld.2;(repeat (first|exact zJ _ _|assumption|refine yab ?_ _|refine zL ?_|refine yac ?_ (by assumption)|refine yaa ?_ _|refine zO ?_ (by simp<;>omega) _|refine zP ?_ (by simp<;>omega) _))
   refine tStore 7 (we.setCell ⟨gv,4,none⟩ (.string ⟨#[48]⟩)) (by kernel_rfl) (by kernel_rfl) ?_ ⟨(HB.out _ hb).1,hb⟩ (fun hHeld=>?_)
   ·simp only[zE,zF,zG,zH,zI];first|(go_simp;done)|(with_reducible rfl)|(go_simp;omega)
   clear q1 q2 hb
   have O1:=zh (O1.out.blocks yaf (w':=we.setCell ⟨gv,4,none⟩ (.string ⟨#[48]⟩)) (B':=0) (fun g h1 _=>yae _ _ _ _ (by omega)))
   have O2:=zh (O2.out.blocks yaf (w':=we.setCell ⟨gv,4,none⟩ (.string ⟨#[48]⟩)) (B':=0) (fun g h1 _=>yae _ _ _ _ (by omega)))
   have z7:wr.heap.size<=(we.setCell ⟨gv,4,none⟩ (.string ⟨#[48]⟩)).heap.size:=by simp only[size_setCell];exact z6b
   generalize hwf:we.setCell ⟨gv,4,none⟩ (.string ⟨#[48]⟩)=wf at *
   clear hwf
   refine wpAnyH_done (by kernel_rfl) (tNoP ?_) _
   have B12:=zh hHeld.2
   clear hHeld K12 K11 K10 K9 B11 B10
   have k4:wf.cell? ⟨gv,4,none⟩=some (.string ⟨#[48]⟩):=K13.out.cell 4
   obtain⟨g2,rfl,hg2,hl2,e2⟩:=ypn O2.out
   have f0:((⟨#[48]⟩:ByteArray).toList==[110,111,110,101])=false:=by decide +kernel
   obtain⟨vn,hvn⟩:∃ v,v=Value.slice none 0 0:=⟨_,rfl⟩
   have HN:=zh hvn
   clear hvn
   have IN:=fun w'=>yfe w'
   obtain⟨i0,hi,hz0,hz1,hz2⟩:=info_parts Tryz.infoInt
   go_wp2
   refine wp_loop_rounds 2 ?_
   rw[rounds_succ]
   go_wp2_with (first
    | (at_builtin;refine wpList_append_own_at _ rfl (.tmp 96) (.tmp 98) _ rfl w7.heap.size 3 i0 (.int .i64 0) 1 8 Tryz.underlying37 hi hz0 hz1 hz2 rfl (by decide) vn 0 [] rfl ((yfp w7 HN.out).alloc _) _ 1 1 [iV 2] rfl rfl (cell_one_new _ _ _) (ydh 2) (by decide) (by decide) (yaa (Below.refl _ _) _).size ?_;intro v8 w8 a8 g8 m8 l8;have hB8:=yan ((yfp w7 HN.out).alloc _) (yaa (Below.refl w7.heap.size w7) _) g8;have OI:=zh (ykn a8);have K14:=zh (K13.out.up hB8);have B14:=zh (yac B13.out hB8);have O1:=zh (O1.out.up yaf hB8 (B':=0));have k3:w8.cell? ⟨gv,3,none⟩=some vn:=(K14.out.cell 3).trans (by rw[HN.out];rfl);have q3:=K14.out.frozen 3;have z8:wr.heap.size<=w8.heap.size:=Nat.le_trans z9 hB8.size;obtain⟨g7,cp7,rfl,_⟩:=ybk (n:=0) a8;clear a8 g8 m8 l8 hB8)
    | (go_at_call 94;(with_reducible refine(IN _).mono ?_);rintro e w7 ⟨rfl,hb⟩;have K13:=zh (K13.out.up hb);have B13:=zh (yac B12.out hb);have O1:=zh (O1.out.up yaf hb (B':=0));have k3:w7.cell? ⟨gv,3,none⟩=some vn:=(K13.out.cell 3).trans (by rw[HN.out];rfl);have z9:wr.heap.size<=w7.heap.size:=Nat.le_trans z7 hb.size;clear hb))
   clear B12 k4 z7 z6 z6b hl2 e2 hg2 O2 f0
   have K15:=zh (show Bk (w8.setCell ⟨gv,3,none⟩ (.slice (some ⟨g7,0,none⟩) 1 cp7)) gv #[.string ⟨#[118]⟩,.int .i64 1,.slice A1 1 d1,.slice (some ⟨g7,0,none⟩) 1 cp7,.string ⟨#[48]⟩,.string ⟨#[]⟩,.slice none 0 0,.slice none 0 0] 41 from K14.out.set _)
   have B15:=zh (show Below w2.heap.size w2 (w8.setCell ⟨gv,3,none⟩ (.slice (some ⟨g7,0,none⟩) 1 cp7)) from by have hb0:=B14.out;(repeat (first|exact zJ _ _|assumption|refine yab ?_ _|refine zL ?_|refine yac ?_ (by assumption)|refine yaa ?_ _|refine zO ?_ (by simp<;>omega) _|refine zP ?_ (by simp<;>omega) _)))
   have O1:=zh (O1.out.blocks yaf (w':=w8.setCell ⟨gv,3,none⟩ (.slice (some ⟨g7,0,none⟩) 1 cp7)) (B':=0) (fun g h1 _=>yae _ _ _ _ (by omega)))
   have OI:=zh ((OI.out.base (base':=wr.heap.size) z9).blocks yak (w':=w8.setCell ⟨gv,3,none⟩ (.slice (some ⟨g7,0,none⟩) 1 cp7)) (B':=0) (fun g h1 _=>yae _ _ _ _ (by omega)))
   generalize hwg:w8.setCell ⟨gv,3,none⟩ (.slice (some ⟨g7,0,none⟩) 1 cp7)=wg at *
   clear hwg K13 K14 B13 B14 k3 q3 z8 z9
   have UQ:=fun w'=>yfj w'
   have s1:(⟨#[118,32,105,56,32,40,32,116,32,41,32,40,32,50,32,41,32,48,32,34,109,34]⟩:ByteArray).size=22:=rfl
   have s2:(⟨#[118,32,105,56,32,40,32,116,32,41,32,40,32,50,32,41,32,48]⟩:ByteArray).size=18:=rfl
   have ex:(⟨#[118,32,105,56,32,40,32,116,32,41,32,40,32,50,32,41,32,48,32,34,109,34]⟩:ByteArray).extract 19 22=⟨#[34,109,34]⟩:=by decide
   rw[rounds_succ]
   go_wp2_with (go_at_call 138;(with_reducible refine(UQ _).mono ?_);rintro e w9 ⟨rfl,hb⟩;have K16:=zh (K15.out.up hb);have B16:=zh (yac B15.out hb);have O1:=zh (O1.out.up yaf hb (B':=0));have OI:=zh (OI.out.up yak hb (B':=0));have k5:w9.cell? ⟨gv,5,none⟩=some (.string ⟨#[]⟩):=K16.out.cell 5;have q5:=K16.out.frozen 5;clear hb)
   have K17:=zh (show Bk (w9.setCell ⟨gv,5,none⟩ (.string ⟨#[109]⟩)) gv #[.string ⟨#[118]⟩,.int .i64 1,.slice A1 1 d1,.slice (some ⟨g7,0,none⟩) 1 cp7,.string ⟨#[48]⟩,.string ⟨#[109]⟩,.slice none 0 0,.slice none 0 0] 41 from K16.out.set _)
   have B17:=zh (show Below w2.heap.size w2 (w9.setCell ⟨gv,5,none⟩ (.string ⟨#[109]⟩)) from by have hb0:=B16.out;(repeat (first|exact zJ _ _|assumption|refine yab ?_ _|refine zL ?_|refine yac ?_ (by assumption)|refine yaa ?_ _|refine zO ?_ (by simp<;>omega) _|refine zP ?_ (by simp<;>omega) _)))
   have O1:=zh (O1.out.blocks yaf (w':=w9.setCell ⟨gv,5,none⟩ (.string ⟨#[109]⟩)) (B':=0) (fun g h1 _=>yae _ _ _ _ (by omega)))
   have OI:=zh (OI.out.blocks yak (w':=w9.setCell ⟨gv,5,none⟩ (.string ⟨#[109]⟩)) (B':=0) (fun g h1 _=>yae _ _ _ _ (by omega)))
   generalize hwh:w9.setCell ⟨gv,5,none⟩ (.string ⟨#[109]⟩)=wh at *
   clear hwh K15 K16 B15 B16 k5 q5
   refine wp_loop_rounds 1 ?_
   rw[rounds_succ]
   go_wp2_with fail
   have hD:Below wh.heap.size wh wh.drew:=Below.drew (Below.refl _ _)
   have Z17:=(HB.out _ (yac B17.out hD)).2.1
   have hw17:=(HB.out _ (yac B17.out hD)).2.2
   have O1:=zh (O1.out.up yaf hD (B':=0))
   have OI:=zh (OI.out.up yak hD (B':=0))
   have hww:w.heap.size<w2.heap.size:=(HB.out _ (Below.refl _ _)).2.1.lt
   refine wp_region_noPanic ?_
   refine wp_region_held_drew (S:=fun w'=>Bk w' gv #[.string ⟨#[118]⟩,.int .i64 1,.slice A1 1 d1,.slice (some ⟨g7,0,none⟩) 1 cp7,.string ⟨#[48]⟩,.string ⟨#[109]⟩,.slice none 0 0,.slice none 0 0] 41/\Below w.heap.size w w') (by kernel_rfl) ⟨K17.out.up hD,hw17⟩ (fun hHeld=>?_)
   clear hD hw17 B17 K17
   generalize hw0:wh.drew=wi at *
   clear hw0
   refine tLoad 0 152 41 (.tmp 8) gv 0 [.string ⟨#[118]⟩,.int .i64 1,.slice A1 1 d1,.slice (some ⟨g7,0,none⟩) 1 cp7,.string ⟨#[48]⟩,.string ⟨#[109]⟩,.slice none 0 0,.slice none 0 0] hHeld (by kernel_rfl) (by kernel_rfl) rfl (fun w' hw'=>ybu hw'.1) Tryz.underlying41 rfl (by kernel_rfl) ?_
   simp only[Act.put,zB,zC,zD]
   refine tRun [(1,153,some (.bool true)),(2,154,some (.bool true)),(3,155,some (.bool true)),(4,156,some (.bool true)),(5,157,some (.bool true))] hHeld (by kernel_rfl) ?_
   simp only[runA,Act.put,zB,zC,zD]
   refine tVal 6 158 (.pointer (some ⟨gv,1,none⟩)) hHeld (by kernel_rfl) (fun w' hSw=>?_) ?_
   ·simp only[zE,zF,zG,zH,zI];first|(go_simp;done)|(with_reducible rfl)|(go_simp;omega)
   simp only[Act.put,zB,zC,zD]
   refine tVal 7 159 (.int .i64 1) hHeld (by kernel_rfl) (fun w' hSw=>?_) ?_
   ·have q1:=hSw.1.cell 1;simp only[List.getElem?_toArray,List.getElem?_cons_succ,List.getElem?_cons_zero] at q1;simp only[zE,zF,zG,zH,zI];first|(go_simp;done)|(with_reducible rfl)|(go_simp;omega)
   simp only[Act.put,zB,zC,zD]
   refine tRun [(8,160,some (.bool true)),(9,161,some (.bool true))] hHeld (by kernel_rfl) ?_
   simp only[runA,Act.put,zB,zC,zD]
   have Bs:Below w.heap.size w (wi.setRow w.heap.size #[.string ⟨#[118]⟩,.int .i64 1,.slice A1 1 d1,.slice (some ⟨g7,0,none⟩) 1 cp7,.string ⟨#[48]⟩,.string ⟨#[109]⟩,.slice none 0 0,.slice none 0 0]):=yby hHeld.2 (Nat.le_refl _) _
   refine tStoreRow 10 41 (.tmp 2) (.tmp 152) w.heap.size #[.string ⟨#[118]⟩,.int .i64 1,.slice A1 1 d1,.slice (some ⟨g7,0,none⟩) 1 cp7,.string ⟨#[48]⟩,.string ⟨#[109]⟩,.slice none 0 0,.slice none 0 0] 41 #[.string ⟨#[]⟩,.int .i64 0,.slice none 0 0,.slice none 0 0,.string ⟨#[]⟩,.string ⟨#[]⟩,.slice none 0 0,.slice none 0 0] (by kernel_rfl) (by kernel_rfl) (by kernel_rfl) rfl rfl Z17 (by kernel_rfl) rfl (by simp[Value.oneCell']) ⟨hHeld.1.row_other _ (by omega),Bs⟩ (fun hHeld=>?_)
   have kF:=Z17.row #[.string ⟨#[118]⟩,.int .i64 1,.slice A1 1 d1,.slice (some ⟨g7,0,none⟩) 1 cp7,.string ⟨#[48]⟩,.string ⟨#[109]⟩,.slice none 0 0,.slice none 0 0]
   have O1:=zh (O1.out.blocks yaf (w':=wi.setRow w.heap.size #[.string ⟨#[118]⟩,.int .i64 1,.slice A1 1 d1,.slice (some ⟨g7,0,none⟩) 1 cp7,.string ⟨#[48]⟩,.string ⟨#[109]⟩,.slice none 0 0,.slice none 0 0]) (B':=0) (fun g h1 _=>setRow_other _ _ _ _ (by omega)))
   have OI:=zh (OI.out.blocks yak (w':=wi.setRow w.heap.size #[.string ⟨#[118]⟩,.int .i64 1,.slice A1 1 d1,.slice (some ⟨g7,0,none⟩) 1 cp7,.string ⟨#[48]⟩,.string ⟨#[109]⟩,.slice none 0 0,.slice none 0 0]) (B':=0) (fun g h1 _=>setRow_other _ _ _ _ (by omega)))
   clear Z17 Bs
   generalize hwk:wi.setRow w.heap.size #[.string ⟨#[118]⟩,.int .i64 1,.slice A1 1 d1,.slice (some ⟨g7,0,none⟩) 1 cp7,.string ⟨#[48]⟩,.string ⟨#[109]⟩,.slice none 0 0,.slice none 0 0]=wk at *
   clear hwk
   refine tRun [(11,3,some (.bool true))] hHeld (by kernel_rfl) ?_
   simp only[runA,Act.put,zB,zC,zD]
   refine wpAnyH_done (by kernel_rfl) (tNoP ?_) _
   have B18:=zh hHeld.2
   clear hHeld
   go_wp2
   have hL:=yaw (P:=Tryz.prog) kF Tryz.underlying41 rfl (by kernel_rfl)
   refine bodyPost_ret (ybs rfl rfl hL rfl) rfl ?_
   exact⟨A1,d1,some ⟨g7,0,none⟩,cp7,rfl,O1.out.base (by omega),OI.out.base (by omega),B18.out⟩
  ·have hb:Below w3.heap.size w3 (w3.alloc (.cells #[.string ⟨#[]⟩,.int .i64 0,.slice none 0 0,.slice none 0 0,.string ⟨#[]⟩,.string ⟨#[]⟩,.slice none 0 0,.slice none 0 0] 41)):=yaa (Below.refl _ _) _
   have K8:Bk (w3.alloc (.cells #[.string ⟨#[]⟩,.int .i64 0,.slice none 0 0,.slice none 0 0,.string ⟨#[]⟩,.string ⟨#[]⟩,.slice none 0 0,.slice none 0 0] 41)) w3.heap.size #[.string ⟨#[]⟩,.int .i64 0,.slice none 0 0,.slice none 0 0,.string ⟨#[]⟩,.string ⟨#[]⟩,.slice none 0 0,.slice none 0 0] 41:=Bk.new w3 _ _
   have hv8:w2.heap.size<=w3.heap.size:=hHeld.2.2.size
   refine eDo (d:=8) (.pointer (some ⟨w3.heap.size,0,none⟩)) (w3.alloc (.cells #[.string ⟨#[]⟩,.int .i64 0,.slice none 0 0,.slice none 0 0,.string ⟨#[]⟩,.string ⟨#[]⟩,.slice none 0 0,.slice none 0 0] 41)) (by kernel_rfl) ?_ ⟨Bk.up hHeld.1 hb,Bk.up hHeld.2.1 hb,yac hHeld.2.2 hb⟩ (fun hHeld=>?_)
   ·simp only[zE,zF,zG,zH,zI];first|(go_simp;done)|(with_reducible rfl)|(go_simp;omega)
   simp only[Act.put,zB,zC,zD]
   have KT:=zh (KT.out.up hb)
   generalize hwq:w3.alloc (.cells #[.string ⟨#[]⟩,.int .i64 0,.slice none 0 0,.slice none 0 0,.string ⟨#[]⟩,.string ⟨#[]⟩,.slice none 0 0,.slice none 0 0] 41)=wq at *
   generalize w3.heap.size=gv at *
   clear hwq hb
   refine tEnter 7 44 68 #[.slice (some ⟨gT,0,none⟩) 6 6,.string ⟨#[105,56]⟩] (by kernel_rfl) (by kernel_rfl) (by kernel_rfl) (ypq _ wq KT.out) ?_
   rintro e wq ⟨rfl,rfl⟩
   refine⟨_,rfl,hHeld,fun hHeld=>?_⟩
   simp only[Act.put,zB,zC,zD]
   refine tVal 8 45 (.agg #[.string ⟨#[118]⟩,.int .i64 1,.slice none 0 0,.slice none 0 0,.string ⟨#[]⟩,.string ⟨#[]⟩,.slice none 0 0,.slice none 0 0]) hHeld (by kernel_rfl) (fun w' hSw=>?_) ?_
   ·simp only[zE,zF,zG,zH,zI];first|(go_simp;done)|(with_reducible rfl)|(go_simp;omega)
   simp only[Act.put,zB,zC,zD]
   have Bs:Below w2.heap.size w2 (wq.setRow gv #[.string ⟨#[118]⟩,.int .i64 1,.slice none 0 0,.slice none 0 0,.string ⟨#[]⟩,.string ⟨#[]⟩,.slice none 0 0,.slice none 0 0]):=yby hHeld.2.2 hv8 _
   refine tStoreRow 10 41 (.tmp 8) (.tmp 45) gv #[.string ⟨#[118]⟩,.int .i64 1,.slice none 0 0,.slice none 0 0,.string ⟨#[]⟩,.string ⟨#[]⟩,.slice none 0 0,.slice none 0 0] 41 #[.string ⟨#[]⟩,.int .i64 0,.slice none 0 0,.slice none 0 0,.string ⟨#[]⟩,.string ⟨#[]⟩,.slice none 0 0,.slice none 0 0] (by kernel_rfl) (by kernel_rfl) (by kernel_rfl) rfl rfl K8 (by kernel_rfl) rfl (by simp[Value.oneCell']) ⟨(HB.out _ Bs).1,(HB.out _ Bs).2.1,Bs⟩ (fun hHeld=>?_)
   have K9:=zh (K8.row #[.string ⟨#[118]⟩,.int .i64 1,.slice none 0 0,.slice none 0 0,.string ⟨#[]⟩,.string ⟨#[]⟩,.slice none 0 0,.slice none 0 0])
   have B9:=zh Bs
   clear hHeld Bs K8
   generalize hwr:wq.setRow gv #[.string ⟨#[118]⟩,.int .i64 1,.slice none 0 0,.slice none 0 0,.string ⟨#[]⟩,.string ⟨#[]⟩,.slice none 0 0,.slice none 0 0]=wr at *
   clear hwr
   refine wpAnyH_done (by kernel_rfl) (tNoP ?_) _
   have hgv:gv<wr.heap.size:=K9.out.lt
   have LS1:=(show Calls Tryz.prog 140 #[.slice (some ⟨gW,2,none⟩) 7 7] wr (fun e w'=>∃ A d,e=.returned (.tuple #[.slice A 1 d,.slice (some ⟨gW,5,none⟩) 4 4,.bool true])/\OL kStr 1 9 wr.heap.size w' 0 (.slice A 1 d) [⟨#[116]⟩]/\Below wr.heap.size wr w') from yef gW 2 7 7 ⟨#[116]⟩ wr (by decide) (by decide) (by decide) (HB.out _ B9.out).1.lt (by decide) ((HB.out _ B9.out).1.cell 2) ((HB.out _ B9.out).1.cell 3) (yiu gW wr (HB.out _ B9.out).1))
   have LS2:=fun w' (hb:Below w2.heap.size w2 w')=>(show Calls Tryz.prog 140 #[.slice (some ⟨gW,5,none⟩) 4 4] w' (fun e w3=>∃ A d,e=.returned (.tuple #[.slice A 1 d,.slice (some ⟨gW,8,none⟩) 1 1,.bool true])/\OL kStr 1 9 w'.heap.size w3 0 (.slice A 1 d) [⟨#[50]⟩]/\Below w'.heap.size w' w3) from yef gW 5 4 4 ⟨#[50]⟩ w' (by decide) (by decide) (by decide) (HB.out _ hb).1.lt (by decide) ((HB.out _ hb).1.cell 5) ((HB.out _ hb).1.cell 6) (yhv gW w' (HB.out _ hb).1))
   go_wp2_with (first
    | (go_at_call 140;(with_reducible refine(LS2 _ B10.out).mono ?_);rintro e w6 ⟨A2,d2,rfl,o2,hb⟩;have O2:=zh o2;have O1:=zh (O1.out.up yaf hb (B':=0));have K11:=zh (K10.out.up hb);have B11:=zh (yac B10.out hb);have z6:wr.heap.size<=w6.heap.size:=Nat.le_trans z5 hb.size;clear o2 hb)
    | (go_at_call 140;(with_reducible refine LS1.mono ?_);rintro e w5 ⟨A1,d1,rfl,o1,hb⟩;have O1:=zh o1;have K10:=zh (K9.out.up hb);have B10:=zh (yac B9.out hb);have z5:wr.heap.size<=w5.heap.size:=hb.size;clear o1 hb))
   clear LS1 LS2
   have hD:Below w6.heap.size w6 w6.drew:=Below.drew (Below.refl _ _)
   refine wp_region_noPanic ?_
   refine wp_region_held_drew (S:=fun w'=>Bk w' gW #[.string ⟨#[118]⟩,.string ⟨#[105,56]⟩,.string ⟨#[40]⟩,.string ⟨#[116]⟩,.string ⟨#[41]⟩,.string ⟨#[40]⟩,.string ⟨#[50]⟩,.string ⟨#[41]⟩,.string ⟨#[48]⟩] 9/\Below w2.heap.size w2 w') (by kernel_rfl) ⟨(HB.out _ (yac B11.out hD)).1,yac B11.out hD⟩ (fun hHeld=>?_)
   have K11:=zh (K11.out.up hD)
   have O1:=zh (O1.out.up yaf hD (B':=0))
   have O2:=zh (O2.out.up yaf hD (B':=0))
   have z6:wr.heap.size<=w6.drew.heap.size:=Nat.le_trans z6 hD.size
   clear hD
   generalize hw0:w6.drew=wd at *
   clear hw0
   refine tRun [(0,70,some (.slice A1 1 d1)),(1,71,some (.slice (some ⟨gW,8,none⟩) 1 1))] hHeld (by kernel_rfl) ?_
   simp only[runA,Act.put,zB,zC,zD]
   refine tVal 2 72 (.pointer (some ⟨gW,8,none⟩)) hHeld (by kernel_rfl) (fun w' hSw=>?_) ?_
   ·simp only[zE,zF,zG,zH,zI];first|(go_simp;done)|(with_reducible rfl)|(go_simp;omega)
   simp only[Act.put,zB,zC,zD]
   refine tVal 3 73 (.string ⟨#[48]⟩) hHeld (by kernel_rfl) (fun w' hSw=>?_) ?_
   ·have q1:=hSw.1.cell 8;simp only[List.getElem?_toArray,List.getElem?_cons_succ,List.getElem?_cons_zero] at q1;simp only[zE,zF,zG,zH,zI];first|(go_simp;done)|(with_reducible rfl)|(go_simp;omega)
   simp only[Act.put,zB,zC,zD]
   refine tVal 4 74 (.pointer (some ⟨gv,2,none⟩)) hHeld (by kernel_rfl) (fun w' hSw=>?_) ?_
   ·simp only[zE,zF,zG,zH,zI];first|(go_simp;done)|(with_reducible rfl)|(go_simp;omega)
   simp only[Act.put,zB,zC,zD]
   have q1:=K11.out.cell 2
   have q2:=K11.out.frozen 2
   simp only[List.getElem?_toArray,List.getElem?_cons_succ,List.getElem?_cons_zero] at q1
   have K12:=zh (show Bk (wd.setCell ⟨gv,2,none⟩ (.slice A1 1 d1)) gv #[.string ⟨#[118]⟩,.int .i64 1,.slice A1 1 d1,.slice none 0 0,.string ⟨#[]⟩,.string ⟨#[]⟩,.slice none 0 0,.slice none 0 0] 41 from K11.out.set _)
   have hb:Below w2.heap.size w2 (wd.setCell ⟨gv,2,none⟩ (.slice A1 1 d1)):=by have hb0:=hHeld.2;(repeat (first|exact zJ _ _|assumption|refine yab ?_ _|refine zL ?_|refine yac ?_ (by assumption)|refine yaa ?_ _|refine zO ?_ (by simp<;>omega) _|refine zP ?_ (by simp<;>omega) _))
   refine tStore 5 (wd.setCell ⟨gv,2,none⟩ (.slice A1 1 d1)) (by kernel_rfl) (by kernel_rfl) ?_ ⟨(HB.out _ hb).1,hb⟩ (fun hHeld=>?_)
   ·simp only[zE,zF,zG,zH,zI];first|(go_simp;done)|(with_reducible rfl)|(go_simp;omega)
   clear q1 q2 hb
   have O1:=zh (O1.out.blocks yaf (w':=wd.setCell ⟨gv,2,none⟩ (.slice A1 1 d1)) (B':=0) (fun g h1 _=>yae _ _ _ _ (by omega)))
   have O2:=zh (O2.out.base (base':=wr.heap.size) (by assumption) |>.blocks yaf (w':=wd.setCell ⟨gv,2,none⟩ (.slice A1 1 d1)) (B':=0) (fun g h1 _=>yae _ _ _ _ (by omega)))
   have z6b:wr.heap.size<=(wd.setCell ⟨gv,2,none⟩ (.slice A1 1 d1)).heap.size:=by simp only[size_setCell];exact z6
   generalize hwe:wd.setCell ⟨gv,2,none⟩ (.slice A1 1 d1)=we at *
   clear hwe
   refine tVal 6 75 (.pointer (some ⟨gv,4,none⟩)) hHeld (by kernel_rfl) (fun w' hSw=>?_) ?_
   ·simp only[zE,zF,zG,zH,zI];first|(go_simp;done)|(with_reducible rfl)|(go_simp;omega)
   simp only[Act.put,zB,zC,zD]
   have q1:=K12.out.cell 4
   have q2:=K12.out.frozen 4
   simp only[List.getElem?_toArray,List.getElem?_cons_succ,List.getElem?_cons_zero] at q1
   have K13:=zh (show Bk (we.setCell ⟨gv,4,none⟩ (.string ⟨#[48]⟩)) gv #[.string ⟨#[118]⟩,.int .i64 1,.slice A1 1 d1,.slice none 0 0,.string ⟨#[48]⟩,.string ⟨#[]⟩,.slice none 0 0,.slice none 0 0] 41 from K12.out.set _)
   have hb:Below w2.heap.size w2 (we.setCell ⟨gv,4,none⟩ (.string ⟨#[48]⟩)):=by have hb0:=hHeld.2;(repeat (first|exact zJ _ _|assumption|refine yab ?_ _|refine zL ?_|refine yac ?_ (by assumption)|refine yaa ?_ _|refine zO ?_ (by simp<;>omega) _|refine zP ?_ (by simp<;>omega) _))
   refine tStore 7 (we.setCell ⟨gv,4,none⟩ (.string ⟨#[48]⟩)) (by kernel_rfl) (by kernel_rfl) ?_ ⟨(HB.out _ hb).1,hb⟩ (fun hHeld=>?_)
   ·simp only[zE,zF,zG,zH,zI];first|(go_simp;done)|(with_reducible rfl)|(go_simp;omega)
   clear q1 q2 hb
   have O1:=zh (O1.out.blocks yaf (w':=we.setCell ⟨gv,4,none⟩ (.string ⟨#[48]⟩)) (B':=0) (fun g h1 _=>yae _ _ _ _ (by omega)))
   have O2:=zh (O2.out.blocks yaf (w':=we.setCell ⟨gv,4,none⟩ (.string ⟨#[48]⟩)) (B':=0) (fun g h1 _=>yae _ _ _ _ (by omega)))
   have z7:wr.heap.size<=(we.setCell ⟨gv,4,none⟩ (.string ⟨#[48]⟩)).heap.size:=by simp only[size_setCell];exact z6b
   generalize hwf:we.setCell ⟨gv,4,none⟩ (.string ⟨#[48]⟩)=wf at *
   clear hwf
   refine wpAnyH_done (by kernel_rfl) (tNoP ?_) _
   have B12:=zh hHeld.2
   clear hHeld K12 K11 K10 K9 B11 B10
   have k4:wf.cell? ⟨gv,4,none⟩=some (.string ⟨#[48]⟩):=K13.out.cell 4
   obtain⟨g2,rfl,hg2,hl2,e2⟩:=ypn O2.out
   have f0:((⟨#[48]⟩:ByteArray).toList==[110,111,110,101])=false:=by decide +kernel
   obtain⟨vn,hvn⟩:∃ v,v=Value.slice none 0 0:=⟨_,rfl⟩
   have HN:=zh hvn
   clear hvn
   have IN:=fun w'=>yfe w'
   obtain⟨i0,hi,hz0,hz1,hz2⟩:=info_parts Tryz.infoInt
   go_wp2
   refine wp_loop_rounds 2 ?_
   rw[rounds_succ]
   go_wp2_with (first
    | (at_builtin;refine wpList_append_own_at _ rfl (.tmp 96) (.tmp 98) _ rfl w7.heap.size 3 i0 (.int .i64 0) 1 8 Tryz.underlying37 hi hz0 hz1 hz2 rfl (by decide) vn 0 [] rfl ((yfp w7 HN.out).alloc _) _ 1 1 [iV 2] rfl rfl (cell_one_new _ _ _) (ydh 2) (by decide) (by decide) (yaa (Below.refl _ _) _).size ?_;intro v8 w8 a8 g8 m8 l8;have hB8:=yan ((yfp w7 HN.out).alloc _) (yaa (Below.refl w7.heap.size w7) _) g8;have OI:=zh (ykn a8);have K14:=zh (K13.out.up hB8);have B14:=zh (yac B13.out hB8);have O1:=zh (O1.out.up yaf hB8 (B':=0));have k3:w8.cell? ⟨gv,3,none⟩=some vn:=(K14.out.cell 3).trans (by rw[HN.out];rfl);have q3:=K14.out.frozen 3;have z8:wr.heap.size<=w8.heap.size:=Nat.le_trans z9 hB8.size;obtain⟨g7,cp7,rfl,_⟩:=ybk (n:=0) a8;clear a8 g8 m8 l8 hB8)
    | (go_at_call 94;(with_reducible refine(IN _).mono ?_);rintro e w7 ⟨rfl,hb⟩;have K13:=zh (K13.out.up hb);have B13:=zh (yac B12.out hb);have O1:=zh (O1.out.up yaf hb (B':=0));have k3:w7.cell? ⟨gv,3,none⟩=some vn:=(K13.out.cell 3).trans (by rw[HN.out];rfl);have z9:wr.heap.size<=w7.heap.size:=Nat.le_trans z7 hb.size;clear hb))
   clear B12 k4 z7 z6 z6b hl2 e2 hg2 O2 f0
   have K15:=zh (show Bk (w8.setCell ⟨gv,3,none⟩ (.slice (some ⟨g7,0,none⟩) 1 cp7)) gv #[.string ⟨#[118]⟩,.int .i64 1,.slice A1 1 d1,.slice (some ⟨g7,0,none⟩) 1 cp7,.string ⟨#[48]⟩,.string ⟨#[]⟩,.slice none 0 0,.slice none 0 0] 41 from K14.out.set _)
   have B15:=zh (show Below w2.heap.size w2 (w8.setCell ⟨gv,3,none⟩ (.slice (some ⟨g7,0,none⟩) 1 cp7)) from by have hb0:=B14.out;(repeat (first|exact zJ _ _|assumption|refine yab ?_ _|refine zL ?_|refine yac ?_ (by assumption)|refine yaa ?_ _|refine zO ?_ (by simp<;>omega) _|refine zP ?_ (by simp<;>omega) _)))
   have O1:=zh (O1.out.blocks yaf (w':=w8.setCell ⟨gv,3,none⟩ (.slice (some ⟨g7,0,none⟩) 1 cp7)) (B':=0) (fun g h1 _=>yae _ _ _ _ (by omega)))
   have OI:=zh ((OI.out.base (base':=wr.heap.size) z9).blocks yak (w':=w8.setCell ⟨gv,3,none⟩ (.slice (some ⟨g7,0,none⟩) 1 cp7)) (B':=0) (fun g h1 _=>yae _ _ _ _ (by omega)))
   generalize hwg:w8.setCell ⟨gv,3,none⟩ (.slice (some ⟨g7,0,none⟩) 1 cp7)=wg at *
   clear hwg K13 K14 B13 B14 k3 q3 z8 z9
   have UQ:=fun w'=>yfj w'
   have s1:(⟨#[118,32,105,56,32,40,32,116,32,41,32,40,32,50,32,41,32,48,32,34,109,34]⟩:ByteArray).size=22:=rfl
   have s2:(⟨#[118,32,105,56,32,40,32,116,32,41,32,40,32,50,32,41,32,48]⟩:ByteArray).size=18:=rfl
   have ex:(⟨#[118,32,105,56,32,40,32,116,32,41,32,40,32,50,32,41,32,48,32,34,109,34]⟩:ByteArray).extract 19 22=⟨#[34,109,34]⟩:=by decide
   rw[rounds_succ]
   go_wp2_with (go_at_call 138;(with_reducible refine(UQ _).mono ?_);rintro e w9 ⟨rfl,hb⟩;have K16:=zh (K15.out.up hb);have B16:=zh (yac B15.out hb);have O1:=zh (O1.out.up yaf hb (B':=0));have OI:=zh (OI.out.up yak hb (B':=0));have k5:w9.cell? ⟨gv,5,none⟩=some (.string ⟨#[]⟩):=K16.out.cell 5;have q5:=K16.out.frozen 5;clear hb)
   have K17:=zh (show Bk (w9.setCell ⟨gv,5,none⟩ (.string ⟨#[109]⟩)) gv #[.string ⟨#[118]⟩,.int .i64 1,.slice A1 1 d1,.slice (some ⟨g7,0,none⟩) 1 cp7,.string ⟨#[48]⟩,.string ⟨#[109]⟩,.slice none 0 0,.slice none 0 0] 41 from K16.out.set _)
   have B17:=zh (show Below w2.heap.size w2 (w9.setCell ⟨gv,5,none⟩ (.string ⟨#[109]⟩)) from by have hb0:=B16.out;(repeat (first|exact zJ _ _|assumption|refine yab ?_ _|refine zL ?_|refine yac ?_ (by assumption)|refine yaa ?_ _|refine zO ?_ (by simp<;>omega) _|refine zP ?_ (by simp<;>omega) _)))
   have O1:=zh (O1.out.blocks yaf (w':=w9.setCell ⟨gv,5,none⟩ (.string ⟨#[109]⟩)) (B':=0) (fun g h1 _=>yae _ _ _ _ (by omega)))
   have OI:=zh (OI.out.blocks yak (w':=w9.setCell ⟨gv,5,none⟩ (.string ⟨#[109]⟩)) (B':=0) (fun g h1 _=>yae _ _ _ _ (by omega)))
   generalize hwh:w9.setCell ⟨gv,5,none⟩ (.string ⟨#[109]⟩)=wh at *
   clear hwh K15 K16 B15 B16 k5 q5
   refine wp_loop_rounds 1 ?_
   rw[rounds_succ]
   go_wp2_with fail
   have hD:Below wh.heap.size wh wh.drew:=Below.drew (Below.refl _ _)
   have Z17:=(HB.out _ (yac B17.out hD)).2.1
   have hw17:=(HB.out _ (yac B17.out hD)).2.2
   have O1:=zh (O1.out.up yaf hD (B':=0))
   have OI:=zh (OI.out.up yak hD (B':=0))
   have hww:w.heap.size<w2.heap.size:=(HB.out _ (Below.refl _ _)).2.1.lt
   refine wp_region_noPanic ?_
   refine wp_region_held_drew (S:=fun w'=>Bk w' gv #[.string ⟨#[118]⟩,.int .i64 1,.slice A1 1 d1,.slice (some ⟨g7,0,none⟩) 1 cp7,.string ⟨#[48]⟩,.string ⟨#[109]⟩,.slice none 0 0,.slice none 0 0] 41/\Below w.heap.size w w') (by kernel_rfl) ⟨K17.out.up hD,hw17⟩ (fun hHeld=>?_)
   clear hD hw17 B17 K17
   generalize hw0:wh.drew=wi at *
   clear hw0
   refine tLoad 0 152 41 (.tmp 8) gv 0 [.string ⟨#[118]⟩,.int .i64 1,.slice A1 1 d1,.slice (some ⟨g7,0,none⟩) 1 cp7,.string ⟨#[48]⟩,.string ⟨#[109]⟩,.slice none 0 0,.slice none 0 0] hHeld (by kernel_rfl) (by kernel_rfl) rfl (fun w' hw'=>ybu hw'.1) Tryz.underlying41 rfl (by kernel_rfl) ?_
   simp only[Act.put,zB,zC,zD]
   refine tRun [(1,153,some (.bool true)),(2,154,some (.bool true)),(3,155,some (.bool true)),(4,156,some (.bool true)),(5,157,some (.bool true))] hHeld (by kernel_rfl) ?_
   simp only[runA,Act.put,zB,zC,zD]
   refine tVal 6 158 (.pointer (some ⟨gv,1,none⟩)) hHeld (by kernel_rfl) (fun w' hSw=>?_) ?_
   ·simp only[zE,zF,zG,zH,zI];first|(go_simp;done)|(with_reducible rfl)|(go_simp;omega)
   simp only[Act.put,zB,zC,zD]
   refine tVal 7 159 (.int .i64 1) hHeld (by kernel_rfl) (fun w' hSw=>?_) ?_
   ·have q1:=hSw.1.cell 1;simp only[List.getElem?_toArray,List.getElem?_cons_succ,List.getElem?_cons_zero] at q1;simp only[zE,zF,zG,zH,zI];first|(go_simp;done)|(with_reducible rfl)|(go_simp;omega)
   simp only[Act.put,zB,zC,zD]
   refine tRun [(8,160,some (.bool true)),(9,161,some (.bool true))] hHeld (by kernel_rfl) ?_
   simp only[runA,Act.put,zB,zC,zD]
   have Bs:Below w.heap.size w (wi.setRow w.heap.size #[.string ⟨#[118]⟩,.int .i64 1,.slice A1 1 d1,.slice (some ⟨g7,0,none⟩) 1 cp7,.string ⟨#[48]⟩,.string ⟨#[109]⟩,.slice none 0 0,.slice none 0 0]):=yby hHeld.2 (Nat.le_refl _) _
   refine tStoreRow 10 41 (.tmp 2) (.tmp 152) w.heap.size #[.string ⟨#[118]⟩,.int .i64 1,.slice A1 1 d1,.slice (some ⟨g7,0,none⟩) 1 cp7,.string ⟨#[48]⟩,.string ⟨#[109]⟩,.slice none 0 0,.slice none 0 0] 41 #[.string ⟨#[]⟩,.int .i64 0,.slice none 0 0,.slice none 0 0,.string ⟨#[]⟩,.string ⟨#[]⟩,.slice none 0 0,.slice none 0 0] (by kernel_rfl) (by kernel_rfl) (by kernel_rfl) rfl rfl Z17 (by kernel_rfl) rfl (by simp[Value.oneCell']) ⟨hHeld.1.row_other _ (by omega),Bs⟩ (fun hHeld=>?_)
   have kF:=Z17.row #[.string ⟨#[118]⟩,.int .i64 1,.slice A1 1 d1,.slice (some ⟨g7,0,none⟩) 1 cp7,.string ⟨#[48]⟩,.string ⟨#[109]⟩,.slice none 0 0,.slice none 0 0]
   have O1:=zh (O1.out.blocks yaf (w':=wi.setRow w.heap.size #[.string ⟨#[118]⟩,.int .i64 1,.slice A1 1 d1,.slice (some ⟨g7,0,none⟩) 1 cp7,.string ⟨#[48]⟩,.string ⟨#[109]⟩,.slice none 0 0,.slice none 0 0]) (B':=0) (fun g h1 _=>setRow_other _ _ _ _ (by omega)))
   have OI:=zh (OI.out.blocks yak (w':=wi.setRow w.heap.size #[.string ⟨#[118]⟩,.int .i64 1,.slice A1 1 d1,.slice (some ⟨g7,0,none⟩) 1 cp7,.string ⟨#[48]⟩,.string ⟨#[109]⟩,.slice none 0 0,.slice none 0 0]) (B':=0) (fun g h1 _=>setRow_other _ _ _ _ (by omega)))
   clear Z17 Bs
   generalize hwk:wi.setRow w.heap.size #[.string ⟨#[118]⟩,.int .i64 1,.slice A1 1 d1,.slice (some ⟨g7,0,none⟩) 1 cp7,.string ⟨#[48]⟩,.string ⟨#[109]⟩,.slice none 0 0,.slice none 0 0]=wk at *
   clear hwk
   refine tRun [(11,3,some (.bool true))] hHeld (by kernel_rfl) ?_
   simp only[runA,Act.put,zB,zC,zD]
   refine wpAnyH_done (by kernel_rfl) (tNoP ?_) _
   have B18:=zh hHeld.2
   clear hHeld
   go_wp2
   have hL:=yaw (P:=Tryz.prog) kF Tryz.underlying41 rfl (by kernel_rfl)
   refine bodyPost_ret (ybs rfl rfl hL rfl) rfl ?_
   exact⟨A1,d1,some ⟨g7,0,none⟩,cp7,rfl,O1.out.base (by omega),OI.out.base (by omega),B18.out⟩
 ·have hb:Below w0.heap.size w0 (w0.alloc (.cells #[.string ⟨#[]⟩,.int .i64 0,.slice none 0 0,.slice none 0 0,.string ⟨#[]⟩,.string ⟨#[]⟩,.slice none 0 0,.slice none 0 0] 41)):=yaa (Below.refl _ _) _
  have K8:Bk (w0.alloc (.cells #[.string ⟨#[]⟩,.int .i64 0,.slice none 0 0,.slice none 0 0,.string ⟨#[]⟩,.string ⟨#[]⟩,.slice none 0 0,.slice none 0 0] 41)) w0.heap.size #[.string ⟨#[]⟩,.int .i64 0,.slice none 0 0,.slice none 0 0,.string ⟨#[]⟩,.string ⟨#[]⟩,.slice none 0 0,.slice none 0 0] 41:=Bk.new w0 _ _
  have hv8:w2.heap.size<=w0.heap.size:=hHeld.2.2.size
  refine eDo (d:=8) (.pointer (some ⟨w0.heap.size,0,none⟩)) (w0.alloc (.cells #[.string ⟨#[]⟩,.int .i64 0,.slice none 0 0,.slice none 0 0,.string ⟨#[]⟩,.string ⟨#[]⟩,.slice none 0 0,.slice none 0 0] 41)) (by kernel_rfl) ?_ ⟨Bk.up hHeld.1 hb,Bk.up hHeld.2.1 hb,yac hHeld.2.2 hb⟩ (fun hHeld=>?_)
  ·simp only[zE,zF,zG,zH,zI];first|(go_simp;done)|(with_reducible rfl)|(go_simp;omega)
  simp only[Act.put,zB,zC,zD]
  generalize hwq:w0.alloc (.cells #[.string ⟨#[]⟩,.int .i64 0,.slice none 0 0,.slice none 0 0,.string ⟨#[]⟩,.string ⟨#[]⟩,.slice none 0 0,.slice none 0 0] 41)=wq at *
  generalize w0.heap.size=gv at *
  clear hwq hb
  refine tEnter 3 40 139 #[] (by kernel_rfl) (by kernel_rfl) (by kernel_rfl) (ygd wq) ?_
  rintro e w3 ⟨rfl,hw3⟩
  have KT:Bk w3 wq.heap.size typesC 9:=by rw[hw3];exact Bk.new wq _ _
  have hb:Below wq.heap.size wq w3:=by rw[hw3];exact yaa (Below.refl _ _) _
  clear hw3
  have K8:=K8.up hb
  refine⟨_,rfl,⟨Bk.up hHeld.1 hb,Bk.up hHeld.2.1 hb,yac hHeld.2.2 hb⟩,fun hHeld=>?_⟩
  simp only[Act.put,zB,zC,zD]
  have KT:=zh KT
  clear hb
  generalize wq.heap.size=gT at *
  refine tEnter 7 44 68 #[.slice (some ⟨gT,0,none⟩) 6 6,.string ⟨#[105,56]⟩] (by kernel_rfl) (by kernel_rfl) (by kernel_rfl) (ypq _ w3 KT.out) ?_
  rintro e w3 ⟨rfl,rfl⟩
  refine⟨_,rfl,hHeld,fun hHeld=>?_⟩
  simp only[Act.put,zB,zC,zD]
  refine tVal 8 45 (.agg #[.string ⟨#[118]⟩,.int .i64 1,.slice none 0 0,.slice none 0 0,.string ⟨#[]⟩,.string ⟨#[]⟩,.slice none 0 0,.slice none 0 0]) hHeld (by kernel_rfl) (fun w' hSw=>?_) ?_
  ·simp only[zE,zF,zG,zH,zI];first|(go_simp;done)|(with_reducible rfl)|(go_simp;omega)
  simp only[Act.put,zB,zC,zD]
  have Bs:Below w2.heap.size w2 (w3.setRow gv #[.string ⟨#[118]⟩,.int .i64 1,.slice none 0 0,.slice none 0 0,.string ⟨#[]⟩,.string ⟨#[]⟩,.slice none 0 0,.slice none 0 0]):=yby hHeld.2.2 hv8 _
  refine tStoreRow 10 41 (.tmp 8) (.tmp 45) gv #[.string ⟨#[118]⟩,.int .i64 1,.slice none 0 0,.slice none 0 0,.string ⟨#[]⟩,.string ⟨#[]⟩,.slice none 0 0,.slice none 0 0] 41 #[.string ⟨#[]⟩,.int .i64 0,.slice none 0 0,.slice none 0 0,.string ⟨#[]⟩,.string ⟨#[]⟩,.slice none 0 0,.slice none 0 0] (by kernel_rfl) (by kernel_rfl) (by kernel_rfl) rfl rfl K8 (by kernel_rfl) rfl (by simp[Value.oneCell']) ⟨(HB.out _ Bs).1,(HB.out _ Bs).2.1,Bs⟩ (fun hHeld=>?_)
  have K9:=zh (K8.row #[.string ⟨#[118]⟩,.int .i64 1,.slice none 0 0,.slice none 0 0,.string ⟨#[]⟩,.string ⟨#[]⟩,.slice none 0 0,.slice none 0 0])
  have B9:=zh Bs
  clear hHeld Bs K8
  generalize hwr:w3.setRow gv #[.string ⟨#[118]⟩,.int .i64 1,.slice none 0 0,.slice none 0 0,.string ⟨#[]⟩,.string ⟨#[]⟩,.slice none 0 0,.slice none 0 0]=wr at *
  clear hwr
  refine wpAnyH_done (by kernel_rfl) (tNoP ?_) _
  have hgv:gv<wr.heap.size:=K9.out.lt
  have LS1:=(show Calls Tryz.prog 140 #[.slice (some ⟨gW,2,none⟩) 7 7] wr (fun e w'=>∃ A d,e=.returned (.tuple #[.slice A 1 d,.slice (some ⟨gW,5,none⟩) 4 4,.bool true])/\OL kStr 1 9 wr.heap.size w' 0 (.slice A 1 d) [⟨#[116]⟩]/\Below wr.heap.size wr w') from yef gW 2 7 7 ⟨#[116]⟩ wr (by decide) (by decide) (by decide) (HB.out _ B9.out).1.lt (by decide) ((HB.out _ B9.out).1.cell 2) ((HB.out _ B9.out).1.cell 3) (yiu gW wr (HB.out _ B9.out).1))
  have LS2:=fun w' (hb:Below w2.heap.size w2 w')=>(show Calls Tryz.prog 140 #[.slice (some ⟨gW,5,none⟩) 4 4] w' (fun e w3=>∃ A d,e=.returned (.tuple #[.slice A 1 d,.slice (some ⟨gW,8,none⟩) 1 1,.bool true])/\OL kStr 1 9 w'.heap.size w3 0 (.slice A 1 d) [⟨#[50]⟩]/\Below w'.heap.size w' w3) from yef gW 5 4 4 ⟨#[50]⟩ w' (by decide) (by decide) (by decide) (HB.out _ hb).1.lt (by decide) ((HB.out _ hb).1.cell 5) ((HB.out _ hb).1.cell 6) (yhv gW w' (HB.out _ hb).1))
  go_wp2_with (first
   | (go_at_call 140;(with_reducible refine(LS2 _ B10.out).mono ?_);rintro e w6 ⟨A2,d2,rfl,o2,hb⟩;have O2:=zh o2;have O1:=zh (O1.out.up yaf hb (B':=0));have K11:=zh (K10.out.up hb);have B11:=zh (yac B10.out hb);have z6:wr.heap.size<=w6.heap.size:=Nat.le_trans z5 hb.size;clear o2 hb)
   | (go_at_call 140;(with_reducible refine LS1.mono ?_);rintro e w5 ⟨A1,d1,rfl,o1,hb⟩;have O1:=zh o1;have K10:=zh (K9.out.up hb);have B10:=zh (yac B9.out hb);have z5:wr.heap.size<=w5.heap.size:=hb.size;clear o1 hb))
  clear LS1 LS2
  have hD:Below w6.heap.size w6 w6.drew:=Below.drew (Below.refl _ _)
  refine wp_region_noPanic ?_
  refine wp_region_held_drew (S:=fun w'=>Bk w' gW #[.string ⟨#[118]⟩,.string ⟨#[105,56]⟩,.string ⟨#[40]⟩,.string ⟨#[116]⟩,.string ⟨#[41]⟩,.string ⟨#[40]⟩,.string ⟨#[50]⟩,.string ⟨#[41]⟩,.string ⟨#[48]⟩] 9/\Below w2.heap.size w2 w') (by kernel_rfl) ⟨(HB.out _ (yac B11.out hD)).1,yac B11.out hD⟩ (fun hHeld=>?_)
  have K11:=zh (K11.out.up hD)
  have O1:=zh (O1.out.up yaf hD (B':=0))
  have O2:=zh (O2.out.up yaf hD (B':=0))
  have z6:wr.heap.size<=w6.drew.heap.size:=Nat.le_trans z6 hD.size
  clear hD
  generalize hw0:w6.drew=wd at *
  clear hw0
  refine tRun [(0,70,some (.slice A1 1 d1)),(1,71,some (.slice (some ⟨gW,8,none⟩) 1 1))] hHeld (by kernel_rfl) ?_
  simp only[runA,Act.put,zB,zC,zD]
  refine tVal 2 72 (.pointer (some ⟨gW,8,none⟩)) hHeld (by kernel_rfl) (fun w' hSw=>?_) ?_
  ·simp only[zE,zF,zG,zH,zI];first|(go_simp;done)|(with_reducible rfl)|(go_simp;omega)
  simp only[Act.put,zB,zC,zD]
  refine tVal 3 73 (.string ⟨#[48]⟩) hHeld (by kernel_rfl) (fun w' hSw=>?_) ?_
  ·have q1:=hSw.1.cell 8;simp only[List.getElem?_toArray,List.getElem?_cons_succ,List.getElem?_cons_zero] at q1;simp only[zE,zF,zG,zH,zI];first|(go_simp;done)|(with_reducible rfl)|(go_simp;omega)
  simp only[Act.put,zB,zC,zD]
  refine tVal 4 74 (.pointer (some ⟨gv,2,none⟩)) hHeld (by kernel_rfl) (fun w' hSw=>?_) ?_
  ·simp only[zE,zF,zG,zH,zI];first|(go_simp;done)|(with_reducible rfl)|(go_simp;omega)
  simp only[Act.put,zB,zC,zD]
  have q1:=K11.out.cell 2
  have q2:=K11.out.frozen 2
  simp only[List.getElem?_toArray,List.getElem?_cons_succ,List.getElem?_cons_zero] at q1
  have K12:=zh (show Bk (wd.setCell ⟨gv,2,none⟩ (.slice A1 1 d1)) gv #[.string ⟨#[118]⟩,.int .i64 1,.slice A1 1 d1,.slice none 0 0,.string ⟨#[]⟩,.string ⟨#[]⟩,.slice none 0 0,.slice none 0 0] 41 from K11.out.set _)
  have hb:Below w2.heap.size w2 (wd.setCell ⟨gv,2,none⟩ (.slice A1 1 d1)):=by have hb0:=hHeld.2;(repeat (first|exact zJ _ _|assumption|refine yab ?_ _|refine zL ?_|refine yac ?_ (by assumption)|refine yaa ?_ _|refine zO ?_ (by simp<;>omega) _|refine zP ?_ (by simp<;>omega) _))
  refine tStore 5 (wd.setCell ⟨gv,2,none⟩ (.slice A1 1 d1)) (by kernel_rfl) (by kernel_rfl) ?_ ⟨(HB.out _ hb).1,hb⟩ (fun hHeld=>?_)
  ·simp only[zE,zF,zG,zH,zI];first|(go_simp;done)|(with_reducible rfl)|(go_simp;omega)
  clear q1 q2 hb
  have O1:=zh (O1.out.blocks yaf (w':=wd.setCell ⟨gv,2,none⟩ (.slice A1 1 d1)) (B':=0) (fun g h1 _=>yae _ _ _ _ (by omega)))
  have O2:=zh (O2.out.base (base':=wr.heap.size) (by assumption) |>.blocks yaf (w':=wd.setCell ⟨gv,2,none⟩ (.slice A1 1 d1)) (B':=0) (fun g h1 _=>yae _ _ _ _ (by omega)))
  have z6b:wr.heap.size<=(wd.setCell ⟨gv,2,none⟩ (.slice A1 1 d1)).heap.size:=by simp only[size_setCell];exact z6
  generalize hwe:wd.setCell ⟨gv,2,none⟩ (.slice A1 1 d1)=we at *
  clear hwe
  refine tVal 6 75 (.pointer (some ⟨gv,4,none⟩)) hHeld (by kernel_rfl) (fun w' hSw=>?_) ?_
  ·simp only[zE,zF,zG,zH,zI];first|(go_simp;done)|(with_reducible rfl)|(go_simp;omega)
  simp only[Act.put,zB,zC,zD]
  have q1:=K12.out.cell 4
  have q2:=K12.out.frozen 4
  simp only[List.getElem?_toArray,List.getElem?_cons_succ,List.getElem?_cons_zero] at q1
  have K13:=zh (show Bk (we.setCell ⟨gv,4,none⟩ (.string ⟨#[48]⟩)) gv #[.string ⟨#[118]⟩,.int .i64 1,.slice A1 1 d1,.slice none 0 0,.string ⟨#[48]⟩,.string ⟨#[]⟩,.slice none 0 0,.slice none 0 0] 41 from K12.out.set _)
  have hb:Below w2.heap.size w2 (we.setCell ⟨gv,4,none⟩ (.string ⟨#[48]⟩)):=by have hb0:=hHeld.2;(repeat (first|exact zJ _ _|assumption|refine yab ?_ _|refine zL ?_|refine yac ?_ (by assumption)|refine yaa ?_ _|refine zO ?_ (by simp<;>omega) _|refine zP ?_ (by simp<;>omega) _))
  refine tStore 7 (we.setCell ⟨gv,4,none⟩ (.string ⟨#[48]⟩)) (by kernel_rfl) (by kernel_rfl) ?_ ⟨(HB.out _ hb).1,hb⟩ (fun hHeld=>?_)
  ·simp only[zE,zF,zG,zH,zI];first|(go_simp;done)|(with_reducible rfl)|(go_simp;omega)
  clear q1 q2 hb
  have O1:=zh (O1.out.blocks yaf (w':=we.setCell ⟨gv,4,none⟩ (.string ⟨#[48]⟩)) (B':=0) (fun g h1 _=>yae _ _ _ _ (by omega)))
  have O2:=zh (O2.out.blocks yaf (w':=we.setCell ⟨gv,4,none⟩ (.string ⟨#[48]⟩)) (B':=0) (fun g h1 _=>yae _ _ _ _ (by omega)))
  have z7:wr.heap.size<=(we.setCell ⟨gv,4,none⟩ (.string ⟨#[48]⟩)).heap.size:=by simp only[size_setCell];exact z6b
  generalize hwf:we.setCell ⟨gv,4,none⟩ (.string ⟨#[48]⟩)=wf at *
  clear hwf
  refine wpAnyH_done (by kernel_rfl) (tNoP ?_) _
  have B12:=zh hHeld.2
  clear hHeld K12 K11 K10 K9 B11 B10
  have k4:wf.cell? ⟨gv,4,none⟩=some (.string ⟨#[48]⟩):=K13.out.cell 4
  obtain⟨g2,rfl,hg2,hl2,e2⟩:=ypn O2.out
  have f0:((⟨#[48]⟩:ByteArray).toList==[110,111,110,101])=false:=by decide +kernel
  obtain⟨vn,hvn⟩:∃ v,v=Value.slice none 0 0:=⟨_,rfl⟩
  have HN:=zh hvn
  clear hvn
  have IN:=fun w'=>yfe w'
  obtain⟨i0,hi,hz0,hz1,hz2⟩:=info_parts Tryz.infoInt
  go_wp2
  refine wp_loop_rounds 2 ?_
  rw[rounds_succ]
  go_wp2_with (first
   | (at_builtin;refine wpList_append_own_at _ rfl (.tmp 96) (.tmp 98) _ rfl w7.heap.size 3 i0 (.int .i64 0) 1 8 Tryz.underlying37 hi hz0 hz1 hz2 rfl (by decide) vn 0 [] rfl ((yfp w7 HN.out).alloc _) _ 1 1 [iV 2] rfl rfl (cell_one_new _ _ _) (ydh 2) (by decide) (by decide) (yaa (Below.refl _ _) _).size ?_;intro v8 w8 a8 g8 m8 l8;have hB8:=yan ((yfp w7 HN.out).alloc _) (yaa (Below.refl w7.heap.size w7) _) g8;have OI:=zh (ykn a8);have K14:=zh (K13.out.up hB8);have B14:=zh (yac B13.out hB8);have O1:=zh (O1.out.up yaf hB8 (B':=0));have k3:w8.cell? ⟨gv,3,none⟩=some vn:=(K14.out.cell 3).trans (by rw[HN.out];rfl);have q3:=K14.out.frozen 3;have z8:wr.heap.size<=w8.heap.size:=Nat.le_trans z9 hB8.size;obtain⟨g7,cp7,rfl,_⟩:=ybk (n:=0) a8;clear a8 g8 m8 l8 hB8)
   | (go_at_call 94;(with_reducible refine(IN _).mono ?_);rintro e w7 ⟨rfl,hb⟩;have K13:=zh (K13.out.up hb);have B13:=zh (yac B12.out hb);have O1:=zh (O1.out.up yaf hb (B':=0));have k3:w7.cell? ⟨gv,3,none⟩=some vn:=(K13.out.cell 3).trans (by rw[HN.out];rfl);have z9:wr.heap.size<=w7.heap.size:=Nat.le_trans z7 hb.size;clear hb))
  clear B12 k4 z7 z6 z6b hl2 e2 hg2 O2 f0
  have K15:=zh (show Bk (w8.setCell ⟨gv,3,none⟩ (.slice (some ⟨g7,0,none⟩) 1 cp7)) gv #[.string ⟨#[118]⟩,.int .i64 1,.slice A1 1 d1,.slice (some ⟨g7,0,none⟩) 1 cp7,.string ⟨#[48]⟩,.string ⟨#[]⟩,.slice none 0 0,.slice none 0 0] 41 from K14.out.set _)
  have B15:=zh (show Below w2.heap.size w2 (w8.setCell ⟨gv,3,none⟩ (.slice (some ⟨g7,0,none⟩) 1 cp7)) from by have hb0:=B14.out;(repeat (first|exact zJ _ _|assumption|refine yab ?_ _|refine zL ?_|refine yac ?_ (by assumption)|refine yaa ?_ _|refine zO ?_ (by simp<;>omega) _|refine zP ?_ (by simp<;>omega) _)))
  have O1:=zh (O1.out.blocks yaf (w':=w8.setCell ⟨gv,3,none⟩ (.slice (some ⟨g7,0,none⟩) 1 cp7)) (B':=0) (fun g h1 _=>yae _ _ _ _ (by omega)))
  have OI:=zh ((OI.out.base (base':=wr.heap.size) z9).blocks yak (w':=w8.setCell ⟨gv,3,none⟩ (.slice (some ⟨g7,0,none⟩) 1 cp7)) (B':=0) (fun g h1 _=>yae _ _ _ _ (by omega)))
  generalize hwg:w8.setCell ⟨gv,3,none⟩ (.slice (some ⟨g7,0,none⟩) 1 cp7)=wg at *
  clear hwg K13 K14 B13 B14 k3 q3 z8 z9
  have UQ:=fun w'=>yfj w'
  have s1:(⟨#[118,32,105,56,32,40,32,116,32,41,32,40,32,50,32,41,32,48,32,34,109,34]⟩:ByteArray).size=22:=rfl
  have s2:(⟨#[118,32,105,56,32,40,32,116,32,41,32,40,32,50,32,41,32,48]⟩:ByteArray).size=18:=rfl
  have ex:(⟨#[118,32,105,56,32,40,32,116,32,41,32,40,32,50,32,41,32,48,32,34,109,34]⟩:ByteArray).extract 19 22=⟨#[34,109,34]⟩:=by decide
  rw[rounds_succ]
  go_wp2_with (go_at_call 138;(with_reducible refine(UQ _).mono ?_);rintro e w9 ⟨rfl,hb⟩;have K16:=zh (K15.out.up hb);have B16:=zh (yac B15.out hb);have O1:=zh (O1.out.up yaf hb (B':=0));have OI:=zh (OI.out.up yak hb (B':=0));have k5:w9.cell? ⟨gv,5,none⟩=some (.string ⟨#[]⟩):=K16.out.cell 5;have q5:=K16.out.frozen 5;clear hb)
  have K17:=zh (show Bk (w9.setCell ⟨gv,5,none⟩ (.string ⟨#[109]⟩)) gv #[.string ⟨#[118]⟩,.int .i64 1,.slice A1 1 d1,.slice (some ⟨g7,0,none⟩) 1 cp7,.string ⟨#[48]⟩,.string ⟨#[109]⟩,.slice none 0 0,.slice none 0 0] 41 from K16.out.set _)
  have B17:=zh (show Below w2.heap.size w2 (w9.setCell ⟨gv,5,none⟩ (.string ⟨#[109]⟩)) from by have hb0:=B16.out;(repeat (first|exact zJ _ _|assumption|refine yab ?_ _|refine zL ?_|refine yac ?_ (by assumption)|refine yaa ?_ _|refine zO ?_ (by simp<;>omega) _|refine zP ?_ (by simp<;>omega) _)))
  have O1:=zh (O1.out.blocks yaf (w':=w9.setCell ⟨gv,5,none⟩ (.string ⟨#[109]⟩)) (B':=0) (fun g h1 _=>yae _ _ _ _ (by omega)))
  have OI:=zh (OI.out.blocks yak (w':=w9.setCell ⟨gv,5,none⟩ (.string ⟨#[109]⟩)) (B':=0) (fun g h1 _=>yae _ _ _ _ (by omega)))
  generalize hwh:w9.setCell ⟨gv,5,none⟩ (.string ⟨#[109]⟩)=wh at *
  clear hwh K15 K16 B15 B16 k5 q5
  refine wp_loop_rounds 1 ?_
  rw[rounds_succ]
  go_wp2_with fail
  have hD:Below wh.heap.size wh wh.drew:=Below.drew (Below.refl _ _)
  have Z17:=(HB.out _ (yac B17.out hD)).2.1
  have hw17:=(HB.out _ (yac B17.out hD)).2.2
  have O1:=zh (O1.out.up yaf hD (B':=0))
  have OI:=zh (OI.out.up yak hD (B':=0))
  have hww:w.heap.size<w2.heap.size:=(HB.out _ (Below.refl _ _)).2.1.lt
  refine wp_region_noPanic ?_
  refine wp_region_held_drew (S:=fun w'=>Bk w' gv #[.string ⟨#[118]⟩,.int .i64 1,.slice A1 1 d1,.slice (some ⟨g7,0,none⟩) 1 cp7,.string ⟨#[48]⟩,.string ⟨#[109]⟩,.slice none 0 0,.slice none 0 0] 41/\Below w.heap.size w w') (by kernel_rfl) ⟨K17.out.up hD,hw17⟩ (fun hHeld=>?_)
  clear hD hw17 B17 K17
  generalize hw0:wh.drew=wi at *
  clear hw0
  refine tLoad 0 152 41 (.tmp 8) gv 0 [.string ⟨#[118]⟩,.int .i64 1,.slice A1 1 d1,.slice (some ⟨g7,0,none⟩) 1 cp7,.string ⟨#[48]⟩,.string ⟨#[109]⟩,.slice none 0 0,.slice none 0 0] hHeld (by kernel_rfl) (by kernel_rfl) rfl (fun w' hw'=>ybu hw'.1) Tryz.underlying41 rfl (by kernel_rfl) ?_
  simp only[Act.put,zB,zC,zD]
  refine tRun [(1,153,some (.bool true)),(2,154,some (.bool true)),(3,155,some (.bool true)),(4,156,some (.bool true)),(5,157,some (.bool true))] hHeld (by kernel_rfl) ?_
  simp only[runA,Act.put,zB,zC,zD]
  refine tVal 6 158 (.pointer (some ⟨gv,1,none⟩)) hHeld (by kernel_rfl) (fun w' hSw=>?_) ?_
  ·simp only[zE,zF,zG,zH,zI];first|(go_simp;done)|(with_reducible rfl)|(go_simp;omega)
  simp only[Act.put,zB,zC,zD]
  refine tVal 7 159 (.int .i64 1) hHeld (by kernel_rfl) (fun w' hSw=>?_) ?_
  ·have q1:=hSw.1.cell 1;simp only[List.getElem?_toArray,List.getElem?_cons_succ,List.getElem?_cons_zero] at q1;simp only[zE,zF,zG,zH,zI];first|(go_simp;done)|(with_reducible rfl)|(go_simp;omega)
  simp only[Act.put,zB,zC,zD]
  refine tRun [(8,160,some (.bool true)),(9,161,some (.bool true))] hHeld (by kernel_rfl) ?_
  simp only[runA,Act.put,zB,zC,zD]
  have Bs:Below w.heap.size w (wi.setRow w.heap.size #[.string ⟨#[118]⟩,.int .i64 1,.slice A1 1 d1,.slice (some ⟨g7,0,none⟩) 1 cp7,.string ⟨#[48]⟩,.string ⟨#[109]⟩,.slice none 0 0,.slice none 0 0]):=yby hHeld.2 (Nat.le_refl _) _
  refine tStoreRow 10 41 (.tmp 2) (.tmp 152) w.heap.size #[.string ⟨#[118]⟩,.int .i64 1,.slice A1 1 d1,.slice (some ⟨g7,0,none⟩) 1 cp7,.string ⟨#[48]⟩,.string ⟨#[109]⟩,.slice none 0 0,.slice none 0 0] 41 #[.string ⟨#[]⟩,.int .i64 0,.slice none 0 0,.slice none 0 0,.string ⟨#[]⟩,.string ⟨#[]⟩,.slice none 0 0,.slice none 0 0] (by kernel_rfl) (by kernel_rfl) (by kernel_rfl) rfl rfl Z17 (by kernel_rfl) rfl (by simp[Value.oneCell']) ⟨hHeld.1.row_other _ (by omega),Bs⟩ (fun hHeld=>?_)
  have kF:=Z17.row #[.string ⟨#[118]⟩,.int .i64 1,.slice A1 1 d1,.slice (some ⟨g7,0,none⟩) 1 cp7,.string ⟨#[48]⟩,.string ⟨#[109]⟩,.slice none 0 0,.slice none 0 0]
  have O1:=zh (O1.out.blocks yaf (w':=wi.setRow w.heap.size #[.string ⟨#[118]⟩,.int .i64 1,.slice A1 1 d1,.slice (some ⟨g7,0,none⟩) 1 cp7,.string ⟨#[48]⟩,.string ⟨#[109]⟩,.slice none 0 0,.slice none 0 0]) (B':=0) (fun g h1 _=>setRow_other _ _ _ _ (by omega)))
  have OI:=zh (OI.out.blocks yak (w':=wi.setRow w.heap.size #[.string ⟨#[118]⟩,.int .i64 1,.slice A1 1 d1,.slice (some ⟨g7,0,none⟩) 1 cp7,.string ⟨#[48]⟩,.string ⟨#[109]⟩,.slice none 0 0,.slice none 0 0]) (B':=0) (fun g h1 _=>setRow_other _ _ _ _ (by omega)))
  clear Z17 Bs
  generalize hwk:wi.setRow w.heap.size #[.string ⟨#[118]⟩,.int .i64 1,.slice A1 1 d1,.slice (some ⟨g7,0,none⟩) 1 cp7,.string ⟨#[48]⟩,.string ⟨#[109]⟩,.slice none 0 0,.slice none 0 0]=wk at *
  clear hwk
  refine tRun [(11,3,some (.bool true))] hHeld (by kernel_rfl) ?_
  simp only[runA,Act.put,zB,zC,zD]
  refine wpAnyH_done (by kernel_rfl) (tNoP ?_) _
  have B18:=zh hHeld.2
  clear hHeld
  go_wp2
  have hL:=yaw (P:=Tryz.prog) kF Tryz.underlying41 rfl (by kernel_rfl)
  refine bodyPost_ret (ybs rfl rfl hL rfl) rfl ?_
  exact⟨A1,d1,some ⟨g7,0,none⟩,cp7,rfl,O1.out.base (by omega),OI.out.base (by omega),B18.out⟩
theorem cut_c (S sep A B:ByteArray) (k:Bool) (hs:S.size<4294967281) (h:Lib.cut S.data.toList sep.data.toList=(A.data.toList,B.data.toList,k)) (w:World) (hw:Ws w):Calls Tryz.prog 93 #[.string S,.string sep] w fun e w'=>e=.returned (.tuple #[.string A,.string B,.bool k])/\Below w.heap.size w w':=by
 obtain⟨mx,hmx⟩:=hw.2.2
 refine(Tryz.strings_Cut S sep mx w hs hmx).mono ?_
 rintro e w' ⟨rfl,n,rfl⟩
 rw[h]
 exact⟨rfl,by (repeat (first|exact zJ _ _|assumption|refine yab ?_ _|refine zL ?_|refine yac ?_ (by assumption)|refine yaa ?_ _|refine zO ?_ (by simp<;>omega) _|refine zP ?_ (by simp<;>omega) _))⟩
theorem ys3 (S sep:ByteArray) (n:Nat) (ps:List ByteArray) (hs:S.size<4294967281) (h0:1<=sep.size) (h1:Lib.countB S sep=n) (h2:Lib.splitB sep 0 n S=ps) (w:World) (hw:Ws w):Calls Tryz.prog 35 #[.string S,.string sep] w fun e w'=>e=.returned (.slice (some ⟨w.heap.size,0,none⟩) (n+1) (n+1))/\w'=w.alloc (.cells (ps.map Value.string).toArray 9):=by
 obtain⟨mx,hmx⟩:=hw.2.2
 refine(Tryz.strings_Split S sep mx w hs hmx h0).mono ?_
 rintro e w' ⟨rfl,rfl⟩
 rw[h1,h2]
 exact⟨rfl,rfl⟩
def St (w:World) (R base top:Nat) (d v:Value):Prop:=∃ G cG,G<top/\Bk w R #[.slice (some ⟨G,0,none⟩) 1 cG] 88/\R<base/\w.ownsRow base 55 4 (.slice (some ⟨G,0,none⟩) 1 cG) 1 [.string ⟨#[47]⟩,d,v,.slice none 0 0]
theorem yhu {w:World} {base e m n:Nat} {v:Value} {xs:List Value} (h:w.ownsRow base e m v (n+1) xs):∃ g cap,v=.slice (some ⟨g,0,none⟩) (n+1) cap/\base<=g/\g<w.heap.size:=by
 rcases h.2 with ⟨_,hn⟩|⟨g,cap,cur,hv,hb,hg,_⟩
 ·omega
 ·exact⟨g,cap,hv,hb,(Array.getElem?_eq_some_iff.1 hg).1⟩
theorem yds {w0 w w':World} {n e m:Nat} {v:Value} {xs:List Value} (h:w.ownsRow w0.heap.size e m v n xs) (hb:Below w0.heap.size w0 w) (hg:w.grownBy w' v.ownBlock):Below w0.heap.size w0 w':=by
 refine hb.trans ⟨hg.os,hg.tape,hg.output,hg.size,fun i hi=>hg.block i (Nat.lt_of_lt_of_le hi hb.size) fun e=>?_⟩
 rcases h.2 with ⟨rfl,_⟩|⟨g,cap,cur,rfl,hbb,_⟩
 ·cases e
 ·have e1:g=i:=by simpa[Value.ownBlock] using e.symm
  omega
theorem yea {w:World} {base base' e m n:Nat} {v:Value} {xs:List Value} (h:w.ownsRow base e m v n xs) (hb:base'<=base):w.ownsRow base' e m v n xs:=by
 obtain⟨h1,h2⟩:=h
 refine⟨h1,?_⟩
 rcases h2 with h4|⟨g,cap,cur,e1,e2,e3⟩
 ·exact .inl h4
 ·exact .inr ⟨g,cap,cur,e1,Nat.le_trans hb e2,e3⟩
theorem yee (w:World) (t:TypeId) (m:Nat) {v:Value} (h:v=.slice none 0 0):w.ownsRow w.heap.size t m v 0 []:=by
 rw[h];exact World.ownsRow_nil _ _ _ _
theorem line_1 (R:Nat) (w:World) (hK:Bk w R #[.slice none 0 0] 88) (hw:Ws w):Calls Tryz.prog 48 #[.pointer (some ⟨R,0,none⟩),.string ⟨#[103,114,111,117,112,32,47]⟩] w fun e w'=>e=.returned (.bool true)/\St w' R w.heap.size w'.heap.size (.slice none 0 0) (.slice none 0 0)/\Below R w w'/\∀ i,i<w.heap.size->i≠R->w'.heap[i]?=w.heap[i]?:=by
 obtain⟨vn,hvn⟩:∃ v,v=Value.slice none 0 0:=⟨_,rfl⟩
 rw[<- hvn] at hK
 have HN:=zh hvn
 have HK:=zh hK
 have hcut:Lib.cut (⟨#[103,114,111,117,112,32,47]⟩:ByteArray).data.toList (⟨#[32]⟩:ByteArray).data.toList=((⟨#[103,114,111,117,112]⟩:ByteArray).data.toList,(⟨#[47]⟩:ByteArray).data.toList,true):=by decide +kernel
 have CU:=cut_c ⟨#[103,114,111,117,112,32,47]⟩ ⟨#[32]⟩ ⟨#[103,114,111,117,112]⟩ ⟨#[47]⟩ true (by decide) hcut w hw
 clear hcut
 obtain⟨i0,hi,hz0,hz1,hz2⟩:=info_parts Tryz.infoGroupC
 have f1:((⟨#[103,114,111,117,112]⟩:ByteArray).toList==[103,114,111,117,112])=true:=by decide +kernel
 have hR:=hK.lt
 have hm0:0<4:=by decide
 have hm1:0+1<=maxLen:=by decide
 have hm2:(0+1)*88<=140737488355328:=by decide
 have hone:∀ u ∈ [Value.string ⟨#[47]⟩,.slice none 0 0,.slice none 0 0,.slice none 0 0],u.oneCell'=true:=by simp[Value.oneCell']
 clear hvn hK hw
 go_enter Tryz.func48,Tryz.ntmps48
 go_wp2_with (first
  | (at_builtin;refine wpList_append_own_at _ rfl (.tmp 34) (.tmp 37) _ rfl w1.heap.size 55 i0 (.agg #[.string ⟨#[]⟩,.slice none 0 0,.slice none 0 0,.slice none 0 0]) 4 88 Tryz.underlying22 hi hz0 hz1 hz2 rfl hm0 vn 0 [] rfl ((yee w1 55 4 HN.out).alloc _) _ 1 1 [.string ⟨#[47]⟩,.slice none 0 0,.slice none 0 0,.slice none 0 0] rfl rfl (yb3 _ _ _) hone hm1 hm2 (yaa (Below.refl _ _) _).size ?_;intro v8 w8 a8 g8 m8 l8;have hB8:=yds ((yee w1 55 4 HN.out).alloc _) (yaa (Below.refl w1.heap.size w1) _) g8;have K2:=zh (K1.out.up hB8);have B8:=zh hB8;have k0:w8.cell? ⟨R,0,none⟩=some vn:=K2.out.cell 0;have q0:=K2.out.frozen 0;obtain⟨G,cG,rfl,hG,hG2⟩:=yhu (n:=0) a8;have A8:=zh (And.intro a8 hG);clear a8 g8 m8 l8 hB8)
  | (go_at_call 93;(with_reducible refine CU.mono ?_);rintro e w1 ⟨rfl,b1⟩;have K1:=zh (HK.out.up b1);have k0:w1.cell? ⟨R,0,none⟩=some vn:=K1.out.cell 0))
 go_ret
 have h00:Below w.heap.size w w8:=b1.trans (B8.out.mono b1.size)
 have h0:Below R w w8:=h00.mono (Nat.le_of_lt hR)
 refine⟨rfl,⟨G,cG,by rw[size_setCell];exact hG2,K2.out.set _,hR,ycr (yea A8.out.1 b1.size) (fun g h1 _=>yae _ _ _ _ (by omega))⟩,by (repeat (first|exact zJ _ _|assumption|refine yab ?_ _|refine zL ?_|refine yac ?_ (by assumption)|refine yaa ?_ _|refine zO ?_ (by simp<;>omega) _|refine zP ?_ (by simp<;>omega) _)),fun i h1 h2=>(yae _ _ _ _ (fun e=>h2 e)).trans (h00.block i h1)⟩
theorem yg0 {w:World} {base e m n g cap:Nat} {xs:List Value} (h:w.ownsRow base e m (.slice (some ⟨g,0,none⟩) n cap) n xs) (j:Nat) (u:Value):(w.setCell ⟨g,j,none⟩ u).ownsRow base e m (.slice (some ⟨g,0,none⟩) n cap) n (xs.set j u):=by
 obtain⟨h1,h2⟩:=h
 refine⟨by rw[List.length_set];exact h1,?_⟩
 rcases h2 with ⟨hv,_⟩|⟨g',cap',cur,hv,hb,hg,hn,hm,hs,ht⟩
 ·cases hv
 ·injection hv with e1 _ e3
  injection e1 with e1
  injection e1 with e1 _ _
  subst e1 e3
  refine .inr ⟨g,cap,cur.setIfInBounds j u,rfl,hb,Bk.set (w:=w) (g:=g) (C:=cur) (t:=e) hg u,hn,hm,by rw[Array.size_setIfInBounds];exact hs,?_⟩
  rw[Array.toList_setIfInBounds,List.take_set,ht]
theorem yd7 {w:World} {base e m n g cap:Nat} {xs:List Value} (h:w.ownsRow base e m (.slice (some ⟨g,0,none⟩) n cap) n xs) {j:Nat} {u:Value} (hj:xs[j]?=some u):w.cell? ⟨g,j,none⟩=some u/\w.frozen? ⟨g,j,none⟩=false/\base<=g/\g<w.heap.size:=by
 have hc:=h.cells (g:=g) rfl j u hj
 have ha:(⟨g,0,none⟩:Addr).add j=⟨g,j,none⟩:=by unfold Addr.add;split<;>simp_all
 rw[ha] at hc
 refine⟨hc,?_⟩
 rcases h.2 with ⟨hv,_⟩|⟨g',cap',cur,hv,hb,hg,_⟩
 ·cases hv
 ·injection hv with e1 _ _
  injection e1 with e1
  injection e1 with e1 _ _
  subst e1
  exact⟨Bk.frozen (w:=w) (g:=g) (C:=cur) (t:=e) hg j,hb,(Array.getElem?_eq_some_iff.1 hg).1⟩
theorem ygz {w w':World} {base e m n:Nat} {v:Value} {xs:List Value} (h:w.ownsRow base e m v n xs) (hb:Below w.heap.size w w'):w'.ownsRow base e m v n xs:=ycr h fun g _ hg=>hb.block g hg
theorem yax:Flat kDim:=fun _ _ _ _ _ _ h=>h
theorem ytu {w:World} {base:Nat} {v:Value} {d:DimD} (h:w.ownsRow base 26 3 v (0+1) ([]++[.string d.name,.int .i64 d.size,.bool d.opn])) (h1:okS d.name) (h2:inI d.size):OL kDim 3 26 base w 0 v [d]:=
 ⟨[[.string d.name,.int .i64 d.size,.bool d.opn]],rfl,fun k x hk=>by
  match k,hk with
  | 0,hk=>injection hk with hk;subst hk;exact⟨_,rfl,rfl,rfl,h1,h2⟩,h⟩
theorem line_2 (R base top:Nat) (w:World) (_ht:top<=w.heap.size) (hS:St w R base top (.slice none 0 0) (.slice none 0 0)) (hw:Ws w):Calls Tryz.prog 48 #[.pointer (some ⟨R,0,none⟩),.string ⟨#[100,105,109,32,116,32,50,32,111,112,101,110]⟩] w fun e w'=>∃ A d,e=.returned (.bool true)/\St w' R base top (.slice A 1 d) (.slice none 0 0)/\OL kDim 3 26 w.heap.size w' 0 (.slice A 1 d) [⟨⟨#[116]⟩,2,true⟩]/\Below base w w':=by
 obtain⟨G,cG,hGt,hK,hRb,hown⟩:=hS
 obtain⟨vn,hvn⟩:∃ v,v=Value.slice none 0 0:=⟨_,rfl⟩
 have HN:=zh hvn
 have hc:=yd7 hown (j:=1) rfl
 rw[<- hvn] at hc
 have hGR:=hc.2.2.2
 have hGb:=hc.2.2.1
 have HH:=zh (show ∀ w',Below w.heap.size w w'->Bk w' R #[.slice (some ⟨G,0,none⟩) 1 cG] 88/\w'.ownsRow base 55 4 (.slice (some ⟨G,0,none⟩) 1 cG) 1 [.string ⟨#[47]⟩,.slice none 0 0,.slice none 0 0,.slice none 0 0]/\w'.cell? ⟨G,1,none⟩=some vn from fun w' hb=>⟨hK.up hb,ygz hown hb,(hb.cell (p:=⟨G,1,none⟩) hGR).trans hc.1⟩)
 have hcut:Lib.cut (⟨#[100,105,109,32,116,32,50,32,111,112,101,110]⟩:ByteArray).data.toList (⟨#[32]⟩:ByteArray).data.toList=((⟨#[100,105,109]⟩:ByteArray).data.toList,(⟨#[116,32,50,32,111,112,101,110]⟩:ByteArray).data.toList,true):=by decide +kernel
 have CU:=cut_c ⟨#[100,105,109,32,116,32,50,32,111,112,101,110]⟩ ⟨#[32]⟩ ⟨#[100,105,109]⟩ ⟨#[116,32,50,32,111,112,101,110]⟩ true (by decide) hcut w hw
 have SP:=fun w' (hb:Below w.heap.size w w')=>(show Calls Tryz.prog 35 #[.string ⟨#[116,32,50,32,111,112,101,110]⟩,.string ⟨#[32]⟩] w' fun e w2=>e=.returned (.slice (some ⟨w'.heap.size,0,none⟩) 3 3)/\w2=w'.alloc (.cells #[.string ⟨#[116]⟩,.string ⟨#[50]⟩,.string ⟨#[111,112,101,110]⟩] 9) from ys3 ⟨#[116,32,50,32,111,112,101,110]⟩ ⟨#[32]⟩ 2 ([⟨#[116]⟩,⟨#[50]⟩,⟨#[111,112,101,110]⟩]:List ByteArray) (by decide) (by decide) (by decide +kernel) (by decide +kernel) w' (hw.up hb))
 have IN:=fun w'=>yfe w'
 obtain⟨i0,hi,hz0',hz1,hz2⟩:=info_parts Tryz.infoDimC
 have f1:((⟨#[100,105,109]⟩:ByteArray).toList==[103,114,111,117,112])=false:=by decide +kernel
 have f2:((⟨#[100,105,109]⟩:ByteArray).toList==[100,105,109])=true:=by decide +kernel
 have hR:=hK.lt
 have hm0:0<3:=by decide
 have hm1:0+1<=maxLen:=by decide
 have hm2:(0+1)*32<=140737488355328:=by decide
 have hone:∀ u ∈ [Value.string ⟨#[116]⟩,.int .i64 2,.bool true],u.oneCell'=true:=by simp[Value.oneCell']
 clear hvn hw hcut hK hown hc _ht
 go_enter Tryz.func48,Tryz.ntmps48
 go_wp2_with (go_at_call 93;(with_reducible refine CU.mono ?_);rintro e w1 ⟨rfl,b1⟩;have k0:w1.cell? ⟨R,0,none⟩=some (.slice (some ⟨G,0,none⟩) 1 cG):=(HH.out _ b1).1.cell 0)
 go_quiet (fail)
 have bq:Below w.heap.size w (w1.drewN nq):=by (repeat (first|exact zJ _ _|assumption|refine yab ?_ _|refine zL ?_|refine yac ?_ (by assumption)|refine yaa ?_ _|refine zO ?_ (by simp<;>omega) _|refine zP ?_ (by simp<;>omega) _))
 generalize w1.drewN nq=wq at *
 go_wp2_with (first
  | (go_at_call 94;(with_reducible refine(IN _).mono ?_);rintro e w4 ⟨rfl,hb⟩;have B4:=zh (b3.trans (hb.mono b3.size));have KW4:=zh (KW.out.up hb);clear hb)
  | (go_at_call 35;(with_reducible refine(SP _ bq).mono ?_);rintro e w3 ⟨rfl,hw3⟩;have KW:=zh (show Bk w3 wq.heap.size #[.string ⟨#[116]⟩,.string ⟨#[50]⟩,.string ⟨#[111,112,101,110]⟩] 9 from by rw[hw3];exact Bk.new _ _ _);have b3:Below w.heap.size w w3:=(by rw[hw3];exact yaa bq _);clear hw3;have k1:w3.cell? ⟨wq.heap.size,1,none⟩=some (.string ⟨#[50]⟩):=KW.out.cell 1))
 have hz4:w.heap.size<=w4.heap.size:=B4.out.size
 generalize wq.heap.size=gW at *
 refine wp_region_noPanic ?_
 refine xStartH (E:=[15,16,17]) (S:=fun w'=>(Bk w' gW #[.string ⟨#[116]⟩,.string ⟨#[50]⟩,.string ⟨#[111,112,101,110]⟩] 9/\w'.cell? ⟨G,1,none⟩=some vn)/\Below w.heap.size w w') (by kernel_rfl) ⟨⟨KW4.out.up (Below.drew (Below.refl _ _)),(HH.out _ (Below.drew B4.out)).2.2⟩,Below.drew B4.out⟩ fun hHeld=>?_
 have hz0:w4.heap.size<=w4.drew.heap.size:=Nat.le_refl _
 generalize hw0:w4.drew=w0 at hHeld hz0 ⊢
 clear hw0 B4 KW4 b3 bq b1
 refine xRun [(0,77,some (.pointer (some ⟨G,0,none⟩))),(1,78,some (.pointer (some ⟨G,0,none⟩)))] hHeld (by kernel_rfl) rfl ?_
 simp only[runA,Act.put,zB,zC,zD]
 refine xVal 2 79 (.pointer (some ⟨G,0,none⟩)) hHeld (by kernel_rfl) (fun w' hSw=>?_) ?_
 ·simp only[zE,zF,zG,zH,zI];first|(go_simp;done)|(with_reducible rfl)|(go_simp;omega)
 simp only[Act.put,zB,zC,zD]
 refine xVal 3 80 (.pointer (some ⟨G,1,none⟩)) hHeld (by kernel_rfl) (fun w' hSw=>?_) ?_
 ·simp only[zE,zF,zG,zH,zI];first|(go_simp;done)|(with_reducible rfl)|(go_simp;omega)
 simp only[Act.put,zB,zC,zD]
 refine xVal 4 81 (vn) hHeld (by kernel_rfl) (fun w' hSw=>?_) ?_
 ·obtain⟨⟨h1,h2⟩,h3⟩:=hSw;simp only[zE,zF,zG,zH,zI];first|(go_simp;done)|(with_reducible rfl)|(go_simp;omega)
 simp only[Act.put,zB,zC,zD]
 refine xRun [(5,82,some (.slice (some ⟨gW,0,none⟩) 3 3))] hHeld (by kernel_rfl) rfl ?_
 simp only[runA,Act.put,zB,zC,zD]
 refine xVal 6 83 (.pointer (some ⟨gW,0,none⟩)) hHeld (by kernel_rfl) (fun w' hSw=>?_) ?_
 ·simp only[zE,zF,zG,zH,zI];first|(go_simp;done)|(with_reducible rfl)|(go_simp;omega)
 simp only[Act.put,zB,zC,zD]
 refine xVal 7 84 (.string ⟨#[116]⟩) hHeld (by kernel_rfl) (fun w' hSw=>?_) ?_
 ·obtain⟨⟨h1,h2⟩,h3⟩:=hSw;have q1:=h1.cell 0;simp only[List.getElem?_toArray,List.getElem?_cons_zero] at q1;simp only[zE,zF,zG,zH,zI];first|(go_simp;done)|(with_reducible rfl)|(go_simp;omega)
 simp only[Act.put,zB,zC,zD]
 refine xRun [(8,85,some (.int .i64 2)),(9,86,some (.slice (some ⟨gW,0,none⟩) 3 3))] hHeld (by kernel_rfl) rfl ?_
 simp only[runA,Act.put,zB,zC,zD]
 refine xVal 10 87 (.int .i64 3) hHeld (by kernel_rfl) (fun w' hSw=>?_) ?_
 ·simp only[zE,zF,zG,zH,zI];first|(go_simp;done)|(with_reducible rfl)|(go_simp;omega)
 simp only[Act.put,zB,zC,zD]
 refine xVal 11 88 (.bool true) hHeld (by kernel_rfl) (fun w' hSw=>?_) ?_
 ·simp only[zE,zF,zG,zH,zI];first|(go_simp;done)|(with_reducible rfl)|(go_simp;omega)
 simp only[Act.put,zB,zC,zD]
 refine xVal 12 89 (.agg #[.string ⟨#[116]⟩,.int .i64 2,.bool true]) hHeld (by kernel_rfl) (fun w' hSw=>?_) ?_
 ·simp only[zE,zF,zG,zH,zI];first|(go_simp;done)|(with_reducible rfl)|(go_simp;omega)
 simp only[Act.put,zB,zC,zD]
 have hz5:w0.heap.size<=(w0.alloc (.cells #[.string ⟨#[116]⟩,.int .i64 2,.bool true] 26)).heap.size:=by simp
 refine xDo 13 90 (.slice (some ⟨w0.heap.size,0,none⟩) 1 1) (w0.alloc (.cells #[.string ⟨#[116]⟩,.int .i64 2,.bool true] 26)) (by kernel_rfl) (by kernel_rfl) ?_ (fun _=>⟨⟨hHeld.1.1.alloc,(World.cell?_alloc_lt _ _ _ (Nat.lt_of_lt_of_le hGR hHeld.2.size)).trans hHeld.1.2⟩,yaa hHeld.2 _⟩) ?_
 ·simp only[zE,zF,zG,zH,zI];first|(go_simp;done)|(with_reducible rfl)|(go_simp;omega)
 simp only[Act.put,zB,zC,zD]
 refine xAll 14 (by kernel_rfl) rfl (by kernel_rfl) (fun K hKK=>?_)
 refine wp_append_own _ (.tmp 81) (.tmp 90) 52 rfl w0.heap.size 26 i0 (.agg #[.string ⟨#[]⟩,.int .i64 0,.bool false]) 3 32 Tryz.underlying52 hi hz0' hz1 hz2 rfl hm0 vn 0 [] rfl ((yee w0 26 3 HN.out).alloc _) ⟨w0.heap.size,0,none⟩ 1 1 [.string ⟨#[116]⟩,.int .i64 2,.bool true] rfl rfl (yb3 _ _ _) hone hm1 hm2 hz5 ?_
 intro v8 w8 a8 g8 _
 have hB8:Below w0.heap.size w0 w8:=yds ((yee w0 26 3 HN.out).alloc _) (yaa (Below.refl w0.heap.size w0) _) g8
 have hB:Below w.heap.size w w8:=hHeld.2.trans (hB8.mono hHeld.2.size)
 refine hKK _ _ (fun _=>⟨⟨hHeld.1.1.up hB8,(hB8.cell (p:=⟨G,1,none⟩) (Nat.lt_of_lt_of_le hGR hHeld.2.size)).trans hHeld.1.2⟩,hB⟩) ?_
 clear hKK K
 simp only[Act.put,List.setIfInBounds_toArray]
 obtain⟨g7,cp7,rfl,hg7,_⟩:=yhu (n:=0) a8
 have OD:=zh (ytu (d:=⟨⟨#[116]⟩,2,true⟩) a8 (show (⟨#[116]⟩:ByteArray).size<=9223372036854775807 by decide) ⟨by decide,by decide⟩)
 have hH8:=HH.out w8 hB
 have hc8:=yd7 hH8.2.1 (j:=1) rfl
 have q1:=hc8.1
 have q2:=hc8.2.1
 have hB2:=zh hB
 clear a8 g8 hB8 hHeld hc8
 refine xPure 15 92 (.pointer (some ⟨G,0,none⟩)) (by kernel_rfl) (fun w'=>?_) ?_
 ·simp only[zE,zF,zG,zH,zI];first|(go_simp;done)|(with_reducible rfl)|(go_simp;omega)
 simp only[Act.put]
 refine xPure 16 93 (.pointer (some ⟨G,1,none⟩)) (by kernel_rfl) (fun w'=>?_) ?_
 ·simp only[zE,zF,zG,zH,zI];first|(go_simp;done)|(with_reducible rfl)|(go_simp;omega)
 simp only[Act.put]
 refine xStore 17 (w8.setCell ⟨G,1,none⟩ (.slice (some ⟨g7,0,none⟩) 1 cp7)) (by kernel_rfl) (by kernel_rfl) ?_ (fun h=>absurd (by decide) h) ?_
 ·simp only[zE,zF,zG,zH,zI];first|(go_simp;done)|(with_reducible rfl)|(go_simp;omega)
 refine xDone (by kernel_rfl) (tNoP ?_)
 have hS2:St (w8.setCell ⟨G,1,none⟩ (.slice (some ⟨g7,0,none⟩) 1 cp7)) R base top (.slice (some ⟨g7,0,none⟩) 1 cp7) (.slice none 0 0):=⟨G,cG,hGt,hH8.1.set_other _ (by omega),hRb,yg0 hH8.2.1 1 _⟩
 have OD2:=zh ((OD.out.base (base':=w.heap.size) (by omega)).blocks yax (w':=w8.setCell ⟨G,1,none⟩ (.slice (some ⟨g7,0,none⟩) 1 cp7)) (B':=0) (fun g h1 _=>yae _ _ _ _ (by omega)))
 have hF:Below base w (w8.setCell ⟨G,1,none⟩ (.slice (some ⟨g7,0,none⟩) 1 cp7)):=by have h0:Below base w w8:=hB2.out.mono (by omega);(repeat (first|exact zJ _ _|assumption|refine yab ?_ _|refine zL ?_|refine yac ?_ (by assumption)|refine yaa ?_ _|refine zO ?_ (by simp<;>omega) _|refine zP ?_ (by simp<;>omega) _))
 have HF:=zh (And.intro hS2 hF)
 clear hS2 hF OD hH8 q1 q2 hB2
 generalize hwz:w8.setCell ⟨G,1,none⟩ (.slice (some ⟨g7,0,none⟩) 1 cp7)=wz at *
 clear hwz
 go_wp2
 go_ret
 exact⟨_,_,rfl,HF.out.1,OD2.out,HF.out.2⟩
theorem line_3 (R base top:Nat) (D:Value) (w:World) (ht:top<=w.heap.size) (hS:St w R base top D (.slice none 0 0)) (hD:OL kDim 3 26 top w 0 D [⟨⟨#[116]⟩,2,true⟩]) (hw:Ws w):Calls Tryz.prog 48 #[.pointer (some ⟨R,0,none⟩),.string ⟨#[118,97,114,32,118,32,105,56,32,40,32,116,32,41,32,40,32,50,32,41,32,48,32,34,109,34]⟩] w fun e w'=>∃ A d E1 d1 E2 d2,e=.returned (.bool true)/\St w' R base top D (.slice A 1 d)/\OL kDim 3 26 top w' 0 D [⟨⟨#[116]⟩,2,true⟩]/\w'.ownsRow top 41 8 (.slice A 1 d) 1 [.string ⟨#[118]⟩,.int .i64 1,.slice E1 1 d1,.slice E2 1 d2,.string ⟨#[48]⟩,.string ⟨#[109]⟩,.slice none 0 0,.slice none 0 0]/\OL kStr 1 9 top w' 0 (.slice E1 1 d1) [⟨#[116]⟩]/\OL kInt 1 3 top w' 0 (.slice E2 1 d2) [2]/\Below base w w':=by
 obtain⟨G,cG,hGt,hK,hRb,hown⟩:=hS
 obtain⟨vn,hvn⟩:∃ v,v=Value.slice none 0 0:=⟨_,rfl⟩
 have HN:=zh hvn
 have hc:=yd7 hown (j:=2) rfl
 rw[<- hvn] at hc
 have hGR:=hc.2.2.2
 have hGb:=hc.2.2.1
 have HH:=zh (show ∀ w',Below w.heap.size w w'->Bk w' R #[.slice (some ⟨G,0,none⟩) 1 cG] 88/\w'.ownsRow base 55 4 (.slice (some ⟨G,0,none⟩) 1 cG) 1 [.string ⟨#[47]⟩,D,.slice none 0 0,.slice none 0 0]/\w'.cell? ⟨G,2,none⟩=some vn/\OL kDim 3 26 top w' 0 D [⟨⟨#[116]⟩,2,true⟩] from fun w' hb=>⟨hK.up hb,ygz hown hb,(hb.cell (p:=⟨G,2,none⟩) hGR).trans hc.1,hD.up yax hb⟩)
 have hcut:Lib.cut (⟨#[118,97,114,32,118,32,105,56,32,40,32,116,32,41,32,40,32,50,32,41,32,48,32,34,109,34]⟩:ByteArray).data.toList (⟨#[32]⟩:ByteArray).data.toList=((⟨#[118,97,114]⟩:ByteArray).data.toList,(⟨#[118,32,105,56,32,40,32,116,32,41,32,40,32,50,32,41,32,48,32,34,109,34]⟩:ByteArray).data.toList,true):=by decide +kernel
 have CU:=cut_c ⟨#[118,97,114,32,118,32,105,56,32,40,32,116,32,41,32,40,32,50,32,41,32,48,32,34,109,34]⟩ ⟨#[32]⟩ ⟨#[118,97,114]⟩ ⟨#[118,32,105,56,32,40,32,116,32,41,32,40,32,50,32,41,32,48,32,34,109,34]⟩ true (by decide) hcut w hw
 have RV:=fun w' (hb:Below w.heap.size w w')=>ype w' (hw.up hb)
 obtain⟨i0,hi,hz0',hz1,hz2⟩:=info_parts Tryz.infoVarC
 have f1:((⟨#[118,97,114]⟩:ByteArray).toList==[103,114,111,117,112])=false:=by decide +kernel
 have f2:((⟨#[118,97,114]⟩:ByteArray).toList==[100,105,109])=false:=by decide +kernel
 have f3:((⟨#[118,97,114]⟩:ByteArray).toList==[97,116,116,114])=false:=by decide +kernel
 have f4:((⟨#[118,97,114]⟩:ByteArray).toList==[118,97,114])=true:=by decide +kernel
 have hR:=hK.lt
 have hm0:0<8:=by decide
 have hm1:0+1<=maxLen:=by decide
 have hm2:(0+1)*152<=140737488355328:=by decide
 have HT:=zh ht
 clear hvn hw hcut hK hown hc ht hD
 go_enter Tryz.func48,Tryz.ntmps48
 go_wp2_with (go_at_call 93;(with_reducible refine CU.mono ?_);rintro e w1 ⟨rfl,b1⟩;have k0:w1.cell? ⟨R,0,none⟩=some (.slice (some ⟨G,0,none⟩) 1 cG):=(HH.out _ b1).1.cell 0)
 go_quiet (fail)
 have bq:Below w.heap.size w (w1.drewN nq):=by (repeat (first|exact zJ _ _|assumption|refine yab ?_ _|refine zL ?_|refine yac ?_ (by assumption)|refine yaa ?_ _|refine zO ?_ (by simp<;>omega) _|refine zP ?_ (by simp<;>omega) _))
 generalize w1.drewN nq=wq at *
 go_wp2_with (go_at_call 96;(with_reducible refine(RV _ bq).mono ?_);rintro e w3 ⟨E1,d1,E2,d2,rfl,o1,o2,hb⟩;have O1:=zh o1;have O2:=zh o2;have b3:Below w.heap.size w w3:=bq.trans (hb.mono bq.size);have hq3:w.heap.size<=wq.heap.size:=bq.size;clear o1 o2 hb)
 have KV:=zh (Bk.new w3 #[.string ⟨#[118]⟩,.int .i64 1,.slice E1 1 d1,.slice E2 1 d2,.string ⟨#[48]⟩,.string ⟨#[109]⟩,.slice none 0 0,.slice none 0 0] 41)
 have B4:=zh (yaa b3 (.cells #[.string ⟨#[118]⟩,.int .i64 1,.slice E1 1 d1,.slice E2 1 d2,.string ⟨#[48]⟩,.string ⟨#[109]⟩,.slice none 0 0,.slice none 0 0] 41))
 have O1:=zh (O1.out.up yaf (yaa (Below.refl w3.heap.size w3) (.cells #[.string ⟨#[118]⟩,.int .i64 1,.slice E1 1 d1,.slice E2 1 d2,.string ⟨#[48]⟩,.string ⟨#[109]⟩,.slice none 0 0,.slice none 0 0] 41)) (B':=0))
 have O2:=zh (O2.out.up yak (yaa (Below.refl w3.heap.size w3) (.cells #[.string ⟨#[118]⟩,.int .i64 1,.slice E1 1 d1,.slice E2 1 d2,.string ⟨#[48]⟩,.string ⟨#[109]⟩,.slice none 0 0,.slice none 0 0] 41)) (B':=0))
 generalize hw4:w3.alloc (.cells #[.string ⟨#[118]⟩,.int .i64 1,.slice E1 1 d1,.slice E2 1 d2,.string ⟨#[48]⟩,.string ⟨#[109]⟩,.slice none 0 0,.slice none 0 0] 41)=w4 at *
 clear hw4 b3 bq b1
 generalize w3.heap.size=gV at *
 refine wp_region_noPanic ?_
 refine xStartH (E:=[8,9,10]) (S:=fun w'=>(Bk w' gV #[.string ⟨#[118]⟩,.int .i64 1,.slice E1 1 d1,.slice E2 1 d2,.string ⟨#[48]⟩,.string ⟨#[109]⟩,.slice none 0 0,.slice none 0 0] 41/\w'.cell? ⟨G,2,none⟩=some vn)/\Below w.heap.size w w') (by kernel_rfl) ⟨⟨KV.out.up (Below.drew (Below.refl _ _)),(HH.out _ (Below.drew B4.out)).2.2.1⟩,Below.drew B4.out⟩ fun hHeld=>?_
 have O1:=zh (O1.out.up yaf (Below.drew (Below.refl w4.heap.size w4)) (B':=0))
 have O2:=zh (O2.out.up yak (Below.drew (Below.refl w4.heap.size w4)) (B':=0))
 generalize hw0:w4.drew=w0 at *
 clear hw0 B4 KV
 refine xRun [(0,120,some (.pointer (some ⟨G,0,none⟩))),(1,121,some (.pointer (some ⟨G,0,none⟩)))] hHeld (by kernel_rfl) rfl ?_
 simp only[runA,Act.put,zB,zC,zD]
 refine xVal 2 122 (.pointer (some ⟨G,0,none⟩)) hHeld (by kernel_rfl) (fun w' hSw=>?_) ?_
 ·simp only[zE,zF,zG,zH,zI];first|(go_simp;done)|(with_reducible rfl)|(go_simp;omega)
 simp only[Act.put,zB,zC,zD]
 refine xVal 3 123 (.pointer (some ⟨G,2,none⟩)) hHeld (by kernel_rfl) (fun w' hSw=>?_) ?_
 ·simp only[zE,zF,zG,zH,zI];first|(go_simp;done)|(with_reducible rfl)|(go_simp;omega)
 simp only[Act.put,zB,zC,zD]
 refine xVal 4 124 (vn) hHeld (by kernel_rfl) (fun w' hSw=>?_) ?_
 ·obtain⟨⟨h1,h2⟩,h3⟩:=hSw;simp only[zE,zF,zG,zH,zI];first|(go_simp;done)|(with_reducible rfl)|(go_simp;omega)
 simp only[Act.put,zB,zC,zD]
 refine xLoad 5 125 41 (.tmp 14) gV 0 [.string ⟨#[118]⟩,.int .i64 1,.slice E1 1 d1,.slice E2 1 d2,.string ⟨#[48]⟩,.string ⟨#[109]⟩,.slice none 0 0,.slice none 0 0] hHeld (by kernel_rfl) (by kernel_rfl) rfl (fun w' hw'=>ybu hw'.1.1) Tryz.underlying41 rfl (by kernel_rfl) ?_
 simp only[Act.put,zB,zC,zD]
 have hone:∀ u ∈ ([.string ⟨#[118]⟩,.int .i64 1,.slice E1 1 d1,.slice E2 1 d2,.string ⟨#[48]⟩,.string ⟨#[109]⟩,.slice none 0 0,.slice none 0 0]:List Value),u.oneCell'=true:=by simp[Value.oneCell']
 have hz5:w0.heap.size<=(w0.alloc (.cells #[.string ⟨#[118]⟩,.int .i64 1,.slice E1 1 d1,.slice E2 1 d2,.string ⟨#[48]⟩,.string ⟨#[109]⟩,.slice none 0 0,.slice none 0 0] 41)).heap.size:=by simp
 refine xDo 6 126 (.slice (some ⟨w0.heap.size,0,none⟩) 1 1) (w0.alloc (.cells #[.string ⟨#[118]⟩,.int .i64 1,.slice E1 1 d1,.slice E2 1 d2,.string ⟨#[48]⟩,.string ⟨#[109]⟩,.slice none 0 0,.slice none 0 0] 41)) (by kernel_rfl) (by kernel_rfl) ?_ (fun _=>⟨⟨hHeld.1.1.alloc,(World.cell?_alloc_lt _ _ _ (Nat.lt_of_lt_of_le hGR hHeld.2.size)).trans hHeld.1.2⟩,yaa hHeld.2 _⟩) ?_
 ·simp only[zE,zF,zG,zH,zI];first|(go_simp;done)|(with_reducible rfl)|(go_simp;omega)
 simp only[Act.put,zB,zC,zD]
 refine xAll 7 (by kernel_rfl) rfl (by kernel_rfl) (fun K hKK=>?_)
 refine wp_append_own _ (.tmp 124) (.tmp 126) 53 rfl w0.heap.size 41 i0 (.agg #[.string ⟨#[]⟩,.int .i64 0,.slice none 0 0,.slice none 0 0,.string ⟨#[]⟩,.string ⟨#[]⟩,.slice none 0 0,.slice none 0 0]) 8 152 Tryz.underlying53 hi hz0' hz1 hz2 rfl hm0 vn 0 [] rfl ((yee w0 41 8 HN.out).alloc _) ⟨w0.heap.size,0,none⟩ 1 1 [.string ⟨#[118]⟩,.int .i64 1,.slice E1 1 d1,.slice E2 1 d2,.string ⟨#[48]⟩,.string ⟨#[109]⟩,.slice none 0 0,.slice none 0 0] rfl rfl (yb3 _ _ _) hone hm1 hm2 hz5 ?_
 intro v8 w8 a8 g8 _
 have hB8:Below w0.heap.size w0 w8:=yds ((yee w0 41 8 HN.out).alloc _) (yaa (Below.refl w0.heap.size w0) _) g8
 have hB:Below w.heap.size w w8:=hHeld.2.trans (hB8.mono hHeld.2.size)
 refine hKK _ _ (fun _=>⟨⟨hHeld.1.1.up hB8,(hB8.cell (p:=⟨G,2,none⟩) (Nat.lt_of_lt_of_le hGR hHeld.2.size)).trans hHeld.1.2⟩,hB⟩) ?_
 clear hKK K
 simp only[Act.put,List.setIfInBounds_toArray]
 obtain⟨g7,cp7,rfl,hg7,_⟩:=yhu (n:=0) a8
 have hz0:w.heap.size<=w0.heap.size:=hHeld.2.size
 have AV:=zh (show w8.ownsRow w0.heap.size 41 8 (.slice (some ⟨g7,0,none⟩) 1 cp7) 1 [.string ⟨#[118]⟩,.int .i64 1,.slice E1 1 d1,.slice E2 1 d2,.string ⟨#[48]⟩,.string ⟨#[109]⟩,.slice none 0 0,.slice none 0 0] from a8)
 have O1:=zh (O1.out.up yaf hB8 (B':=0))
 have O2:=zh (O2.out.up yak hB8 (B':=0))
 have hH8:=HH.out w8 hB
 have hc8:=yd7 hH8.2.1 (j:=2) rfl
 have q1:w8.cell? ⟨G,2,none⟩=some (.slice none 0 0):=hc8.1
 have q2:=hc8.2.1
 have hB2:=zh hB
 clear a8 g8 hB8 hHeld hc8
 refine xPure 8 128 (.pointer (some ⟨G,0,none⟩)) (by kernel_rfl) (fun w'=>?_) ?_
 ·simp only[zE,zF,zG,zH,zI];first|(go_simp;done)|(with_reducible rfl)|(go_simp;omega)
 simp only[Act.put]
 refine xPure 9 129 (.pointer (some ⟨G,2,none⟩)) (by kernel_rfl) (fun w'=>?_) ?_
 ·simp only[zE,zF,zG,zH,zI];first|(go_simp;done)|(with_reducible rfl)|(go_simp;omega)
 simp only[Act.put]
 refine xStore 10 (w8.setCell ⟨G,2,none⟩ (.slice (some ⟨g7,0,none⟩) 1 cp7)) (by kernel_rfl) (by kernel_rfl) ?_ (fun h=>absurd (by decide) h) ?_
 ·simp only[zE,zF,zG,zH,zI];first|(go_simp;done)|(with_reducible rfl)|(go_simp;omega)
 refine xDone (by kernel_rfl) (tNoP ?_)
 have hS2:St (w8.setCell ⟨G,2,none⟩ (.slice (some ⟨g7,0,none⟩) 1 cp7)) R base top D (.slice (some ⟨g7,0,none⟩) 1 cp7):=⟨G,cG,hGt,hH8.1.set_other _ (by omega),hRb,yg0 hH8.2.1 2 _⟩
 have htw:=HT.out
 have hot:∀ g,top<=g->g<w8.heap.size->(w8.setCell ⟨G,2,none⟩ (.slice (some ⟨g7,0,none⟩) 1 cp7)).heap[g]?=w8.heap[g]?:=fun g h1 _=>yae _ _ _ _ (by omega)
 have P1:=zh ((O1.out.base (base':=top) (by omega)).blocks yaf hot (B':=0))
 have P2:=zh ((O2.out.base (base':=top) (by omega)).blocks yak hot (B':=0))
 have P3:=zh (hH8.2.2.2.blocks yax hot (B':=0))
 have P4:=zh (ycr (yea AV.out (base':=top) (by omega)) hot)
 have hF:Below base w (w8.setCell ⟨G,2,none⟩ (.slice (some ⟨g7,0,none⟩) 1 cp7)):=by have h0:Below base w w8:=hB2.out.mono (by omega);(repeat (first|exact zJ _ _|assumption|refine yab ?_ _|refine zL ?_|refine yac ?_ (by assumption)|refine yaa ?_ _|refine zO ?_ (by simp<;>omega) _|refine zP ?_ (by simp<;>omega) _))
 have HF:=zh (And.intro hS2 hF)
 clear hS2 hF O1 O2 AV hH8 q1 q2 hB2 hot
 generalize hwz:w8.setCell ⟨G,2,none⟩ (.slice (some ⟨g7,0,none⟩) 1 cp7)=wz at *
 clear hwz
 go_wp2
 go_ret
 exact⟨_,_,E1,d1,E2,d2,rfl,HF.out.1,P3.out,P4.out,P1.out,P2.out,HF.out.2⟩
def wl1:ByteArray:=⟨#[103,114,111,117,112,32,47,10]⟩
def wl2:ByteArray:=⟨#[100,105,109,32,116,32,50,32,111,112,101,110,10]⟩
def wl3:ByteArray:=⟨#[118,97,114,32,118,32,105,56,32,40,32,116,32,41,32,40,32,50,32,41,32,48,32,34,109,34,10]⟩
def wtrim (x:ByteArray):ByteArray:=⟨(Lib.trimSuffix x.data.toList [10]).toArray⟩
def Stt (R lo:Nat) (k:Nat) (W:World):Prop:=R<lo/\match k with
 | 0=>Bk W R #[.slice none 0 0] 88
 | 1=>∃ base top,lo<=base/\base<=top/\top<=W.heap.size/\St W R base top (.slice none 0 0) (.slice none 0 0)
 | 2=>∃ base top D,lo<=base/\base<=top/\top<=W.heap.size/\St W R base top D (.slice none 0 0)/\OL kDim 3 26 top W 0 D [⟨⟨#[116]⟩,2,true⟩]
 | _=>∃ base top D A d E1 d1 E2 d2,lo<=base/\base<=top/\top<=W.heap.size/\St W R base top D (.slice A 1 d)/\OL kDim 3 26 top W 0 D [⟨⟨#[116]⟩,2,true⟩]/\
   W.ownsRow top 41 8 (.slice A 1 d) 1 [.string ⟨#[118]⟩,.int .i64 1,.slice E1 1 d1,.slice E2 1 d2,.string ⟨#[48]⟩,.string ⟨#[109]⟩,.slice none 0 0,.slice none 0 0]/\
   OL kStr 1 9 top W 0 (.slice E1 1 d1) [⟨#[116]⟩]/\OL kInt 1 3 top W 0 (.slice E2 1 d2) [2]
theorem St.blocks {w w':World} {R base top:Nat} {d v:Value} (h:St w R base top d v) (hR:w'.heap[R]?=w.heap[R]?) (hw:∀ g,base<=g->g<w.heap.size->w'.heap[g]?=w.heap[g]?):St w' R base top d v:=by
 obtain⟨G,cG,h1,h2,h3,h4⟩:=h
 exact⟨G,cG,h1,hR.trans h2,h3,ycr h4 hw⟩
theorem Stt.blocks {R lo k:Nat} {w w':World} (h:Stt R lo k w) (hz:w.heap.size<=w'.heap.size) (hw:∀ g,g<w.heap.size->g=R\/lo<=g->w'.heap[g]?=w.heap[g]?) (hR:R<w.heap.size):Stt R lo k w':=by
 obtain⟨h0,h⟩:=h
 refine⟨h0,?_⟩
 have e:=hw R hR (.inl rfl)
 match k,h with
 | 0,h=>exact e.trans h
 | 1,⟨base,top,h1,h2,h3,h4⟩=>exact⟨base,top,h1,h2,Nat.le_trans h3 hz,h4.blocks e fun g a b=>hw g b (.inr (Nat.le_trans h1 a))⟩
 | 2,⟨base,top,D,h1,h2,h3,h4,h5⟩=>
  exact⟨base,top,D,h1,h2,Nat.le_trans h3 hz,h4.blocks e fun g a b=>hw g b (.inr (Nat.le_trans h1 a)),h5.blocks yax fun g a b=>hw g b (.inr (by omega))⟩
 | k+3,⟨base,top,D,A,d,E1,d1,E2,d2,h1,h2,h3,h4,h5,h6,h7,h8⟩=>
  exact⟨base,top,D,A,d,E1,d1,E2,d2,h1,h2,Nat.le_trans h3 hz,h4.blocks e fun g a b=>hw g b (.inr (Nat.le_trans h1 a)),h5.blocks yax fun g a b=>hw g b (.inr (by omega)),
   ycr h6 fun g a b=>hw g b (.inr (by omega)),h7.blocks yaf fun g a b=>hw g b (.inr (by omega)),h8.blocks yak fun g a b=>hw g b (.inr (by omega))⟩
theorem St.lt {w:World} {R base top:Nat} {d v:Value} (h:St w R base top d v):R<w.heap.size:=by
 obtain⟨G,cG,h1,h2,_⟩:=h
 exact h2.lt
theorem Stt.lt {R lo k:Nat} {w:World} (h:Stt R lo k w):R<w.heap.size:=by
 obtain⟨_,h⟩:=h
 match k,h with
 | 0,h=>exact Bk.lt h
 | 1,⟨base,top,h1,h2,h3,h4⟩=>exact h4.lt
 | 2,⟨base,top,D,h1,h2,h3,h4,h5⟩=>exact h4.lt
 | k+3,⟨base,top,D,A,d,E1,d1,E2,d2,h1,h2,h3,h4,_⟩=>exact h4.lt
theorem ytk:wtrim wl1=⟨#[103,114,111,117,112,32,47]⟩:=by decide +kernel
theorem ytm:wtrim wl2=⟨#[100,105,109,32,116,32,50,32,111,112,101,110]⟩:=by decide +kernel
theorem ysx:wtrim wl3=⟨#[118,97,114,32,118,32,105,56,32,40,32,116,32,41,32,40,32,50,32,41,32,48,32,34,109,34]⟩:=by decide +kernel
theorem yp9 (R lo:Nat) (pre:List ByteArray) (x:ByteArray) (W:World) (hp:pre++[x] <+: [wl1,wl2,wl3]) (hlo:lo<=W.heap.size) (h:Stt R lo pre.length W) (hw:Ws W) :
  Calls Tryz.prog 48 #[.pointer (some ⟨R,0,none⟩),.string (wtrim x)] W fun e W'=>e=.returned (.bool true)/\Stt R lo (pre++[x]).length W'/\Below R W W'/\∀ i,i<lo->i≠R->W'.heap[i]?=W.heap[i]?:=by
 match pre,hp with
 | [],hp=>
  obtain rfl:x=wl1:=by simpa using hp
  obtain⟨h0,h⟩:=h
  rw[ytk]
  refine(line_1 R W h hw).mono ?_
  rintro e W' ⟨rfl,h1,h2,h3⟩
  exact⟨rfl,⟨h0,W.heap.size,W'.heap.size,hlo,h2.size,Nat.le_refl _,h1⟩,h2,fun i a b=>h3 i (Nat.lt_of_lt_of_le a hlo) b⟩
 | [y],hp=>
  obtain⟨rfl,rfl⟩:y=wl1/\x=wl2:=by simpa using hp
  obtain⟨h0,base,top,a1,a2,a3,a4⟩:=h
  rw[ytm]
  refine(line_2 R base top W a3 a4 hw).mono ?_
  rintro e W' ⟨A,d,rfl,h1,h2,h3⟩
  exact⟨rfl,⟨h0,base,top,_,a1,a2,Nat.le_trans a3 h3.size,h1,h2.base a3⟩,h3.mono (by omega),fun i a b=>h3.block i (by omega)⟩
 | [y,z],hp=>
  obtain⟨rfl,rfl,rfl⟩:y=wl1/\z=wl2/\x=wl3:=by simpa using hp
  obtain⟨h0,base,top,D,a1,a2,a3,a4,a5⟩:=h
  rw[ysx]
  refine(line_3 R base top D W a3 a4 a5 hw).mono ?_
  rintro e W' ⟨A,d,E1,d1,E2,d2,rfl,h1,h2,h3,h4,h5,h6⟩
  exact⟨rfl,⟨h0,base,top,D,A,d,E1,d1,E2,d2,a1,a2,Nat.le_trans a3 h6.size,h1,h2,h3,h4,h5⟩,h6.mono (by omega),fun i a b=>h6.block i (by omega)⟩
 | y::z::u::pre,hp=>
  exact absurd hp.length_le (by simp)
theorem ysj {α:Type} {P:Rd α} {m:Nat} {t:TypeId} {base:Nat} {w:World} {v:Value} {vs:List Value} {x:α} (h:w.ownsRow base t m v 1 vs) (hl:vs.length=m) (hx:P w w.heap.size vs x) (hP:Lifts P):VL P m w w.heap.size v [x]:=by
 refine OL.vl (t:=t) (base:=base) (B:=w.heap.size) ⟨[vs],rfl,fun k y hk=>?_,by simpa using h⟩ hP (Nat.le_refl _) (by simp)
 cases k with
 | zero=>injection hk with hk;subst hk;exact⟨vs,rfl,hl,hx⟩
 | succ k=>cases hk
theorem Stt.schema {R lo:Nat} {W:World} (h:Stt R lo 3 W):∃ v,Bk W R #[v] 88/\(∃ A n c,v=.slice A n c)/\VSchema W W.heap.size v wokenS:=by
 obtain⟨h0,base,top,D,A,d,E1,d1,E2,d2,a1,a2,a3,⟨G,cG,b1,b2,b3,b4⟩,a5,a6,a7,a8⟩:=h
 refine⟨_,b2,⟨_,_,_,rfl⟩,ysj b4 rfl ?_ yai⟩
 refine⟨D,.slice A 1 d,.slice none 0 0,rfl,by unfold okS;decide,a5.vl ya2 (Nat.zero_le _) (by simp),?_,VL.nil⟩
 refine ysj a6 rfl ⟨.slice E1 1 d1,.slice E2 1 d2,.slice none 0 0,.slice none 0 0,rfl,by unfold okS;decide,by unfold inI;decide,by unfold okS;decide,by unfold okS;decide,a7.vl yao (Nat.zero_le _) (by simp),a8.vl ybg (Nat.zero_le _) (by simp),VL.nil,VL.nil⟩ yb2
def WkF (w:World) (bG oG _cG bD oD cD bV oV cV b1 o1 c1 b2 o2 c2:Nat) (A3:Option Addr) (c3:Nat) (A5:Option Addr) (c5:Nat) (A4:Option Addr) (c4:Nat):Prop:=w.cell? ⟨bG,oG,none⟩=some (.string ⟨#[47]⟩)/\w.cell? ⟨bG,oG+1,none⟩=some (.slice (some ⟨bD,oD,none⟩) 1 cD)/\w.cell? ⟨bG,oG+2,none⟩=some (.slice (some ⟨bV,oV,none⟩) 1 cV)/\w.cell? ⟨bG,oG+3,none⟩=some (.slice A4 0 c4)/\w.cell? ⟨bD,oD,none⟩=some (.string ⟨#[116]⟩)/\w.cell? ⟨bD,oD+1,none⟩=some (.int .i64 2)/\w.cell? ⟨bD,oD+2,none⟩=some (.bool true)/\w.cell? ⟨bV,oV,none⟩=some (.string ⟨#[118]⟩)/\w.cell? ⟨bV,oV+1,none⟩=some (.int .i64 1)/\w.cell? ⟨bV,oV+2,none⟩=some (.slice (some ⟨b1,o1,none⟩) 1 c1)/\w.cell? ⟨bV,oV+3,none⟩=some (.slice (some ⟨b2,o2,none⟩) 1 c2)/\w.cell? ⟨bV,oV+4,none⟩=some (.string ⟨#[48]⟩)/\w.cell? ⟨bV,oV+5,none⟩=some (.string ⟨#[109]⟩)/\w.cell? ⟨bV,oV+6,none⟩=some (.slice A3 0 c3)/\w.cell? ⟨bV,oV+7,none⟩=some (.slice A5 0 c5)/\w.cell? ⟨b1,o1,none⟩=some (.string ⟨#[116]⟩)/\w.cell? ⟨b2,o2,none⟩=some (.int .i64 2)
def WkC (w:World) (bG oG cG bD oD cD bV oV cV b1 o1 c1 b2 o2 c2:Nat) (A3:Option Addr) (c3:Nat) (A5:Option Addr) (c5:Nat) (A4:Option Addr) (c4:Nat):Prop:=((1<=cG/\1<=cD/\1<=cV/\1<=c1/\1<=c2)/\(bG<w.heap.size/\bD<w.heap.size/\bV<w.heap.size/\b1<w.heap.size/\b2<w.heap.size))/\WkF w bG oG cG bD oD cD bV oV cV b1 o1 c1 b2 o2 c2 A3 c3 A5 c5 A4 c4
theorem WkC.up {w w':World} {bG oG cG bD oD cD bV oV cV b1 o1 c1 b2 o2 c2:Nat} {A3:Option Addr} {c3:Nat} {A5:Option Addr} {c5:Nat} {A4:Option Addr} {c4:Nat} (h:WkC w bG oG cG bD oD cD bV oV cV b1 o1 c1 b2 o2 c2 A3 c3 A5 c5 A4 c4) (hb:Below w.heap.size w w'):WkC w' bG oG cG bD oD cD bV oV cV b1 o1 c1 b2 o2 c2 A3 c3 A5 c5 A4 c4:=by
 obtain⟨⟨h1,l1,l2,l3,l4,l5⟩,f0,f1,f2,f3,f4,f5,f6,f7,f8,f9,f10,f11,f12,f13,f14,f15,f16⟩:=h
 have z:=hb.size
 refine⟨⟨h1,by omega,by omega,by omega,by omega,by omega⟩,(hb.cell (p:=⟨bG,oG,none⟩) l1).trans f0,(hb.cell (p:=⟨bG,oG+1,none⟩) l1).trans f1,(hb.cell (p:=⟨bG,oG+2,none⟩) l1).trans f2,(hb.cell (p:=⟨bG,oG+3,none⟩) l1).trans f3,(hb.cell (p:=⟨bD,oD,none⟩) l2).trans f4,(hb.cell (p:=⟨bD,oD+1,none⟩) l2).trans f5,(hb.cell (p:=⟨bD,oD+2,none⟩) l2).trans f6,(hb.cell (p:=⟨bV,oV,none⟩) l3).trans f7,(hb.cell (p:=⟨bV,oV+1,none⟩) l3).trans f8,(hb.cell (p:=⟨bV,oV+2,none⟩) l3).trans f9,(hb.cell (p:=⟨bV,oV+3,none⟩) l3).trans f10,(hb.cell (p:=⟨bV,oV+4,none⟩) l3).trans f11,(hb.cell (p:=⟨bV,oV+5,none⟩) l3).trans f12,(hb.cell (p:=⟨bV,oV+6,none⟩) l3).trans f13,(hb.cell (p:=⟨bV,oV+7,none⟩) l3).trans f14,(hb.cell (p:=⟨b1,o1,none⟩) l4).trans f15,(hb.cell (p:=⟨b2,o2,none⟩) l5).trans f16⟩
theorem yg1 {w:World} {v:Value} (h:VSchema w w.heap.size v wokenS):∃ bG oG cG bD oD cD bV oV cV b1 o1 c1 b2 o2 c2 A3 c3 A5 c5 A4 c4,v=.slice (some ⟨bG,oG,none⟩) 1 cG/\WkC w bG oG cG bD oD cD bV oV cV b1 o1 c1 b2 o2 c2 A3 c3 A5 c5 A4 c4:=by
 obtain⟨AG,cG,rfl,hG,_⟩:=h.val
 obtain⟨bG,oG,vs,rfl,zG,_,rG,kG⟩:=h.get (k:=0) rfl
 obtain⟨v1,v2,v3,rfl,_,hD,hV,hA⟩:=kG
 obtain⟨AD,cD,rfl,hD1,_⟩:=hD.val
 obtain⟨bD,oD,vs,rfl,zD,_,rD,kD⟩:=hD.get (k:=0) rfl
 obtain⟨rfl,_⟩:=kD
 obtain⟨AV,cV,rfl,hV1,_⟩:=hV.val
 obtain⟨bV,oV,vs,rfl,zV,_,rV,kV⟩:=hV.get (k:=0) rfl
 obtain⟨A4,c4,rfl,_,_⟩:=hA.val
 obtain⟨u1,u2,u3,u4,rfl,_,_,_,_,g1,g2,g3,g4⟩:=kV
 obtain⟨A1,c1,rfl,hc1,_⟩:=g1.val
 obtain⟨b1,o1,vs,rfl,z1,_,r1,k1⟩:=g1.get (k:=0) rfl
 obtain⟨rfl,_⟩:=k1
 obtain⟨A2,c2,rfl,hc2,_⟩:=g2.val
 obtain⟨b2,o2,vs,rfl,z2,_,r2,k2⟩:=g2.get (k:=0) rfl
 obtain⟨rfl,_⟩:=k2
 obtain⟨A3,c3,rfl,_,_⟩:=g3.val
 obtain⟨A5,c5,rfl,_,_⟩:=g4.val
 simp only[Nat.zero_mul,Nat.add_zero] at rG rD rV r1 r2
 exact⟨bG,oG,cG,bD,oD,cD,bV,oV,cV,b1,o1,c1,b2,o2,c2,A3,c3,A5,c5,A4,c4,rfl,⟨⟨hG,hD1,hV1,hc1,hc2⟩,zG,zD,zV,z1,z2⟩,rG 0 _ rfl,rG 1 _ rfl,rG 2 _ rfl,rG 3 _ rfl,rD 0 _ rfl,rD 1 _ rfl,rD 2 _ rfl,rV 0 _ rfl,rV 1 _ rfl,rV 2 _ rfl,rV 3 _ rfl,rV 4 _ rfl,rV 5 _ rfl,rV 6 _ rfl,rV 7 _ rfl,r1 0 _ rfl,r2 0 _ rfl⟩
theorem yed (w:World) (l:List Value) (t:TypeId) (b:Nat) (hb:b=w.heap.size):∀ j u,l[j]?=some u->(w.alloc (.cells l.toArray t)).cell? ((⟨b,0,none⟩:Addr).add j)=some u:=by
 subst hb
 exact yb3 w l t
theorem yfg {w w':World} {b:Nat} {C:Array Value} {t:TypeId} {base m n:Nat} {e:TypeId} {v:Value} {xs:List Value} (h:Bk w b C t) (ho:w.ownsRow base e m v n xs) (ht:t≠e) (hg:w.grownBy w' v.ownBlock):Bk w' b C t:=by
 refine(hg.block b h.lt fun hb=>?_).trans h
 rcases ho.2 with ⟨rfl,_⟩|⟨g,cap,cur,rfl,_,hh,_⟩
 ·cases hb
 ·have e1:g=b:=by simpa[Value.ownBlock] using hb.symm
  subst e1
  have h2:w.heap[g]?=some (.cells C t (0,0)):=h
  rw[hh] at h2
  injection h2 with h2
  injection h2 with _ h3 _
  exact ht h3.symm
theorem yst (bG oG cG bD oD cD bV oV cV b1 o1 c1 b2 o2 c2:Nat) (A3:Option Addr) (c3:Nat) (A5:Option Addr) (c5:Nat) (A4:Option Addr) (c4:Nat) (w:World) (hk:WkC w bG oG cG bD oD cD bV oV cV b1 o1 c1 b2 o2 c2 A3 c3 A5 c5 A4 c4) (hw:Ws w) :
  Calls Tryz.prog 99 #[.agg #[.slice (some ⟨bG,oG,none⟩) 1 cG]] w fun e w'=>∃ g cap,e=.returned (.slice (some ⟨g,0,none⟩) 3 cap)/\g<w'.heap.size/\3<=cap/\(∀ j u,([.string ⟨#[103,114,111,117,112,32,47]⟩,.string ⟨#[100,105,109,32,116,32,50,32,111,112,101,110]⟩,.string ⟨#[118,97,114,32,118,32,105,56,32,40,32,116,32,41,32,40,32,50,32,41,32,48,32,34,109,34]⟩])[j]?=some u->w'.cell? ⟨g,0+j,none⟩=some u)/\Below w.heap.size w w':=by
 obtain⟨i0,hi,hz0,hz1,hz2⟩:=info_parts Tryz.infoStrC
 have HW:=zh hw
 obtain⟨⟨⟨q1,q2,q3,q4,q5⟩,_⟩,_⟩:=id hk
 have HQ:=zh (And.intro q4 q5)
 have q1:(1:Int)<=(cG:Int):=by omega
 have q2:(1:Int)<=(cD:Int):=by omega
 have q3:(1:Int)<=(cV:Int):=by omega
 have hk0:=hk
 clear hw q4 q5
 go_enter Tryz.func99,Tryz.ntmps99
 have hx1:=yaa (Below.refl w.heap.size w) (.cells #[.slice (some ⟨bG,oG,none⟩) 1 cG] 24)
 have hxc:(w.alloc (.cells #[.slice (some ⟨bG,oG,none⟩) 1 cG] 24)).cell? ⟨w.heap.size,0,none⟩=some (.slice (some ⟨bG,oG,none⟩) 1 cG):=((Bk.new w #[.slice (some ⟨bG,oG,none⟩) 1 cG] 24).cell 0).trans rfl
 have hx3:w.heap.size<(w.alloc (.cells #[.slice (some ⟨bG,oG,none⟩) 1 cG] 24)).heap.size:=by simp
 go_wp2
 generalize hwx:w.alloc (.cells #[.slice (some ⟨bG,oG,none⟩) 1 cG] 24)=wx at *
 have HB:=zh (show ∀ w2,Below wx.heap.size wx w2->Below w.heap.size w w2 from fun w2 hb=>hx1.trans (hb.mono hx1.size))
 have HC:=zh (show ∀ w2,Below wx.heap.size wx w2->w2.cell? ⟨w.heap.size,0,none⟩=some (.slice (some ⟨bG,oG,none⟩) 1 cG) from fun w2 hb=>(hb.cell (p:=⟨w.heap.size,0,none⟩) hx3).trans hxc)
 have HK:=zh (show ∀ w2,Below wx.heap.size wx w2->WkC w2 bG oG cG bD oD cD bV oV cV b1 o1 c1 b2 o2 c2 A3 c3 A5 c5 A4 c4 from fun w2 hb=>hk0.up (hx1.trans (hb.mono hx1.size)))
 have HZ:=zh hx3
 have HLT:=zh hk0.1.2
 clear hx1 hxc hx3 hwx hk hk0
 have hO0:=zh (World.ownsRow_nil wx wx.heap.size 9 1)
 have hB0:=zh (Below.refl wx.heap.size wx)
 have IT:=fun w' (hb:Below w.heap.size w w')=>ysm w' (HW.out.up hb).1
 have VL:=fun w' (hb:Below w.heap.size w w') (hk:WkC w' bG oG cG bD oD cD bV oV cV b1 o1 c1 b2 o2 c2 A3 c3 A5 c5 A4 c4)=>yow b1 o1 c1 b2 o2 c2 A3 c3 (.slice A5 0 c5) w' HQ.out.1 HQ.out.2 hk.1.2.2.2.2.1 hk.1.2.2.2.2.2 hk.2.2.2.2.2.2.2.2.2.2.2.2.2.2.2.2.1 hk.2.2.2.2.2.2.2.2.2.2.2.2.2.2.2.2.2 (HW.out.up hb)
 obtain⟨_,f0,f1,f2,f3,f4,f5,f6,f7,f8,f9,f10,f11,f12,f13,f14,f15,f16⟩:=HK.out wx (Below.refl _ _)
 have k0:=HC.out wx (Below.refl _ _)
 have eG:(⟨#[103,114,111,117,112,32]⟩++⟨#[47]⟩:ByteArray)=⟨#[103,114,111,117,112,32,47]⟩:=by rfl
 have eO:(⟨#[100,105,109,32,116,32,50]⟩++⟨#[32,111,112,101,110]⟩:ByteArray)=⟨#[100,105,109,32,116,32,50,32,111,112,101,110]⟩:=by rfl
 generalize hvn:Value.slice none 0 0=vn at *
 clear hvn
 refine wp_loop_rounds 2 ?_
 rw[rounds_succ]
 go_wp2_with (at_builtin;refine wpList_append_own_at _ rfl (.tmp 22) (.tmp 26) _ rfl wx.heap.size 9 i0 (.string ⟨#[]⟩) 1 16 Tryz.underlying36 hi hz0 hz1 hz2 rfl (by decide) _ _ _ rfl ((hO0.out.alloc _).alloc _) _ 1 1 [.string ⟨#[103,114,111,117,112,32,47]⟩] rfl rfl (yed _ _ _ _ (by simp)) (ydj _ rfl) (by decide) (by decide) (yaa (yaa hB0.out _) _).size ?_;intro v3 w3 a2 g2 m2 l2;have hB3:=zh (yan ((hO0.out.alloc _).alloc _) (yaa (yaa hB0.out _) _) g2);have hO3:=zh a2;have KG3:=zh (yfg (Bk.alloc (Bk.new wx #[.string ⟨#[47]⟩,.slice (some ⟨bD,oD,none⟩) 1 cD,.slice (some ⟨bV,oV,none⟩) 1 cV,.slice A4 0 c4] 55)) ((hO0.out.alloc _).alloc _) (by decide) g2);have t51:w3.cell? ⟨wx.heap.size,1,none⟩=some (.slice (some ⟨bD,oD,none⟩) 1 cD):=KG3.out.cell 1;clear a2 g2 m2 l2;obtain⟨g3,cp3,rfl,f3x⟩:=ybk (n:=0) hO3.out;have F3:=zh f3x;clear f3x)
 clear f0 f1 f2 f3 f4 f5 f6 f7 f8 f9 f10 f11 f12 f13 f14 f15 f16 k0 hB0 hO0
 obtain⟨_,f0,f1,f2,f3,f4,f5,f6,f7,f8,f9,f10,f11,f12,f13,f14,f15,f16⟩:=HK.out w3 hB3.out
 refine wp_loop_rounds 2 ?_
 rw[rounds_succ]
 go_wp2_with fail
 have hw3:Below wx.heap.size wx (w3.alloc (.cells #[.string ⟨#[116]⟩,.int .i64 2,.bool true] 26)).drew:=Below.drew (yaa hB3.out _)
 refine wp_region_noPanic ?_
 refine wp_region_held_drew (S:=fun w'=>Bk w' w3.heap.size #[.string ⟨#[116]⟩,.int .i64 2,.bool true] 26/\Bk w' wx.heap.size #[.string ⟨#[47]⟩,.slice (some ⟨bD,oD,none⟩) 1 cD,.slice (some ⟨bV,oV,none⟩) 1 cV,.slice A4 0 c4] 55/\w'.ownsRow wx.heap.size 9 1 (.slice (some ⟨g3,0,none⟩) 1 cp3) 1 [.string ⟨#[103,114,111,117,112,32,47]⟩]/\Below wx.heap.size wx w') (by kernel_rfl) ⟨Bk.new w3 #[.string ⟨#[116]⟩,.int .i64 2,.bool true] 26,Bk.alloc KG3.out,(hO3.out.alloc _),hw3⟩ (fun hHeld=>?_)
 refine tVal 0 35 (.pointer (some ⟨w3.heap.size,0,none⟩)) hHeld (by kernel_rfl) (fun w' hSw=>?_) ?_
 ·simp only[List.getElem?_toArray,List.getElem?_cons_zero,Option.map_some,Option.some.injEq];first|(go_simp;done)|(with_reducible rfl)|(go_simp;omega)|(go_simp;go_show;fail)
 simp only[Act.put,zB,zC,zD]
 refine tVal 1 36 (.string ⟨#[116]⟩) hHeld (by kernel_rfl) (fun w' hSw=>?_) ?_
 ·have q1:=hSw.1.cell 0;simp only[List.getElem?_toArray,List.getElem?_cons_zero] at q1;simp only[zE,zF,zG,zH,zI];first|(go_simp;done)|(with_reducible rfl)|(go_simp;omega)
 simp only[Act.put,zB,zC,zD]
 refine tRun [(2,37,some (.string ⟨#[100,105,109,32,116]⟩)),(3,38,some (.string ⟨#[100,105,109,32,116,32]⟩))] hHeld (by kernel_rfl) ?_
 simp only[runA,Act.put,zB,zC,zD]
 refine tVal 4 39 (.pointer (some ⟨w3.heap.size,1,none⟩)) hHeld (by kernel_rfl) (fun w' hSw=>?_) ?_
 ·simp only[zE,zF,zG,zH,zI];first|(go_simp;done)|(with_reducible rfl)|(go_simp;omega)
 simp only[Act.put,zB,zC,zD]
 refine tVal 5 40 (.int .i64 2) hHeld (by kernel_rfl) (fun w' hSw=>?_) ?_
 ·have q1:=hSw.1.cell 1;simp only[List.getElem?_toArray,List.getElem?_cons_succ,List.getElem?_cons_zero] at q1;simp only[zE,zF,zG,zH,zI];first|(go_simp;done)|(with_reducible rfl)|(go_simp;omega)
 simp only[Act.put,zB,zC,zD]
 refine tEnter 6 41 146 #[.int .i64 2] (by kernel_rfl) (by kernel_rfl) (by kernel_rfl) (IT _ (HB.out _ hHeld.2.2.2)) ?_
 rintro e w4 ⟨rfl,hb⟩
 refine⟨_,rfl,⟨Bk.up hHeld.1 hb,Bk.up hHeld.2.1 hb,yal hHeld.2.2.1 hb,yac hHeld.2.2.2 hb⟩,fun hHeld=>?_⟩
 simp only[Act.put,zB,zC,zD]
 clear hb
 refine tRun [(7,42,some (.string ⟨#[100,105,109,32,116,32,50]⟩)),(8,8,some (.string ⟨#[100,105,109,32,116,32,50]⟩))] hHeld (by kernel_rfl) ?_
 simp only[runA,Act.put,zB,zC,zD]
 refine wpAnyH_done (by kernel_rfl) (tNoP ?_) _
 have hO4:=zh hHeld.2.2.1
 have hB4:=zh hHeld.2.2.2
 have KG4:=zh hHeld.2.1
 have t72:w4.cell? ⟨w3.heap.size,2,none⟩=some (.bool true):=hHeld.1.cell 2
 clear hHeld hw3 t51 f0 f1 f2 f3 f4 f5 f6 f7 f8 f9 f10 f11 f12 f13 f14 f15 f16
 go_wp2_with (at_builtin;refine wpList_append_own_at _ rfl (.tmp 47) (.tmp 49) _ rfl wx.heap.size 9 i0 (.string ⟨#[]⟩) 1 16 Tryz.underlying36 hi hz0 hz1 hz2 rfl (by decide) _ _ _ rfl (hO4.out.alloc _) _ 1 1 [.string ⟨#[100,105,109,32,116,32,50,32,111,112,101,110]⟩] rfl rfl (yed _ _ _ _ (by simp)) (ydj _ rfl) (by decide) (by decide) (yaa hB4.out _).size ?_;intro v6 w6 a2 g2 m2 l2;have hB6:=zh (yan (hO4.out.alloc _) (yaa hB4.out _) g2);have hO6:=zh a2;have KG6:=zh (yfg (Bk.alloc KG4.out) (hO4.out.alloc _) (by decide) g2);have t62:w6.cell? ⟨wx.heap.size,2,none⟩=some (.slice (some ⟨bV,oV,none⟩) 1 cV):=KG6.out.cell 2;have t63:w6.cell? ⟨wx.heap.size,3,none⟩=some (.slice A4 0 c4):=KG6.out.cell 3;clear a2 g2 m2 l2;obtain⟨g6,cp6,rfl,f6x⟩:=ybk (n:=1) hO6.out;have F6:=zh f6x;clear f6x)
 clear t72
 obtain⟨_,f0,f1,f2,f3,f4,f5,f6,f7,f8,f9,f10,f11,f12,f13,f14,f15,f16⟩:=HK.out w6 hB6.out
 rw[rounds_succ]
 go_wp2
 refine wp_loop_rounds 1 ?_
 rw[rounds_succ]
 go_wp2
 refine wp_loop_rounds 2 ?_
 rw[rounds_succ]
 go_wp2_with (first|(go_at_call 148;(with_reducible refine(VL _ (HB.out _ (yaa hB6.out _)) (HK.out _ (yaa hB6.out _))).mono ?_);rintro e w7 ⟨rfl,hb⟩;have hO7:=zh (yal (hO6.out.alloc _) hb);have hB7:=zh (yac (yaa hB6.out _) hb);have KV7:=zh (Bk.up (Bk.new w6 #[.string ⟨#[118]⟩,.int .i64 1,.slice (some ⟨b1,o1,none⟩) 1 c1,.slice (some ⟨b2,o2,none⟩) 1 c2,.string ⟨#[48]⟩,.string ⟨#[109]⟩,.slice A3 0 c3,.slice A5 0 c5] 41) hb);clear hb)|(at_builtin;refine wpList_append_own_at _ rfl (.tmp 72) (.tmp 75) _ rfl wx.heap.size 9 i0 (.string ⟨#[]⟩) 1 16 Tryz.underlying36 hi hz0 hz1 hz2 rfl (by decide) _ _ _ rfl (hO7.out.alloc _) _ 1 1 [.string ⟨#[118,97,114,32,118,32,105,56,32,40,32,116,32,41,32,40,32,50,32,41,32,48,32,34,109,34]⟩] rfl rfl (yed _ _ _ _ (by simp)) (ydj _ rfl) (by decide) (by decide) (yaa hB7.out _).size ?_;intro v8 w8 a2 g2 m2 l2;have hB8:=zh (yan (hO7.out.alloc _) (yaa hB7.out _) g2);have hO8:=zh a2;have KV8:=zh (yfg (Bk.alloc KV7.out) (hO7.out.alloc _) (by decide) g2);have t87:w8.cell? ⟨w6.heap.size,7,none⟩=some (.slice A5 0 c5):=KV8.out.cell 7;clear a2 g2 m2 l2;obtain⟨g8,cp8,rfl,f8x⟩:=ybk (n:=2) hO8.out;have F8:=zh f8x;clear f8x))
 refine wp_loop_rounds 1 ?_
 rw[rounds_succ]
 go_wp2
 rw[rounds_succ]
 go_wp2
 rw[rounds_succ]
 go_wp2
 go_ret
 exact⟨g8,cp8,rfl,F8.out.1,F8.out.2.1,F8.out.2.2,HB.out _ hB8.out⟩
theorem ygy:∀ g ∈ wokenS,g.path.size<=4000000000:=by decide
theorem ys6 (v:Value) (w:World) (hV:VSchema w w.heap.size v wokenS) (hw:Ws w):Calls Tryz.prog 50 #[.agg #[v]] w fun e w'=>e=.returned (.tuple #[.string ⟨#[103,114,111,117,112,32,47,10,100,105,109,32,116,32,50,32,111,112,101,110,10,118,97,114,32,118,32,105,56,32,40,32,116,32,41,32,40,32,50,32,41,32,48,32,34,109,34,10]⟩,.int .i64 0])/\Below w.heap.size w w':=by
 have VA:=fun w' (hb:Below w.heap.size w w')=>(show Calls Tryz.prog 6 #[.agg #[v]] w' fun e w2=>e=.returned (.bool true)/\Below w'.heap.size w' w2 by
  have h:=ycu v wokenS w' ((VL.keeps yah hV hb).lifts yai hb.size) ygy (hw.up hb)
  rw[yf9] at h
  exact h)
 obtain⟨bG,oG,cG,bD,oD,cD,bV,oV,cV,b1,o1,c1,b2,o2,c2,A3,c3,A5,c5,A4,c4,rfl,hk⟩:=yg1 hV
 have LI:=fun w' (hb:Below w.heap.size w w')=>yst bG oG cG bD oD cD bV oV cV b1 o1 c1 b2 o2 c2 A3 c3 A5 c5 A4 c4 w' (hk.up hb) (hw.up hb)
 have JO:=zh (show ∀ (wc:World) (g cap:Nat),g<wc.heap.size->3<=cap->(∀ j u,([.string ⟨#[103,114,111,117,112,32,47]⟩,.string ⟨#[100,105,109,32,116,32,50,32,111,112,101,110]⟩,.string ⟨#[118,97,114,32,118,32,105,56,32,40,32,116,32,41,32,40,32,50,32,41,32,48,32,34,109,34]⟩])[j]?=some u->wc.cell? ⟨g,0+j,none⟩=some u)->Calls Tryz.prog 98 #[.slice (some ⟨g,0,none⟩) 3 cap,.string ⟨#[10]⟩] wc (fun e w'=>e=.returned (.string ⟨#[103,114,111,117,112,32,47,10,100,105,109,32,116,32,50,32,111,112,101,110,10,118,97,114,32,118,32,105,56,32,40,32,116,32,41,32,40,32,50,32,41,32,48,32,34,109,34]⟩)/\Below wc.heap.size wc w') from fun wc g cap h1 h2 h3=>by
  have h:=Tryz.strings_Join g 0 cap ([⟨#[103,114,111,117,112,32,47]⟩,⟨#[100,105,109,32,116,32,50,32,111,112,101,110]⟩,⟨#[118,97,114,32,118,32,105,56,32,40,32,116,32,41,32,40,32,50,32,41,32,48,32,34,109,34]⟩]:List ByteArray) ⟨#[10]⟩ wc (fun j x hj=>h3 j (.string x) (by
   have:(([⟨#[103,114,111,117,112,32,47]⟩,⟨#[100,105,109,32,116,32,50,32,111,112,101,110]⟩,⟨#[118,97,114,32,118,32,105,56,32,40,32,116,32,41,32,40,32,50,32,41,32,48,32,34,109,34]⟩]:List ByteArray).map Value.string)[j]?=some (.string x):=by rw[List.getElem?_map,hj];rfl
   exact this)) h1 (by decide) h2 (by decide +kernel)
  have e:(⟨(Lib.join ((([⟨#[103,114,111,117,112,32,47]⟩,⟨#[100,105,109,32,116,32,50,32,111,112,101,110]⟩,⟨#[118,97,114,32,118,32,105,56,32,40,32,116,32,41,32,40,32,50,32,41,32,48,32,34,109,34]⟩]:List ByteArray)).map (·.data.toList)) [10]).toArray⟩:ByteArray)=⟨#[103,114,111,117,112,32,47,10,100,105,109,32,116,32,50,32,111,112,101,110,10,118,97,114,32,118,32,105,56,32,40,32,116,32,41,32,40,32,50,32,41,32,48,32,34,109,34]⟩:=by decide +kernel
  rw[show (⟨#[10]⟩:ByteArray).data.toList=[10] from rfl,e] at h
  exact h)
 have eT:(⟨#[103,114,111,117,112,32,47,10,100,105,109,32,116,32,50,32,111,112,101,110,10,118,97,114,32,118,32,105,56,32,40,32,116,32,41,32,40,32,50,32,41,32,48,32,34,109,34]⟩++⟨#[10]⟩:ByteArray)=⟨#[103,114,111,117,112,32,47,10,100,105,109,32,116,32,50,32,111,112,101,110,10,118,97,114,32,118,32,105,56,32,40,32,116,32,41,32,40,32,50,32,41,32,48,32,34,109,34,10]⟩:=by rfl
 clear hw hV hk
 go_enter Tryz.func50,Tryz.ntmps50
 go_wp2_with (first
  | (go_at_call 98;(with_reducible refine(JO.out _ g cap h1 h2 h3).mono ?_);rintro e w5 ⟨rfl,hb⟩;have b5:Hid (Below w.heap.size w w5):=zh (yac b4.out hb);clear hb)
  | (go_at_call 99;(with_reducible refine(LI _ b1.out).mono ?_);rintro e w4 ⟨g,cap,rfl,h1,h2,h3,hb⟩;have b4:Hid (Below w.heap.size w w4):=zh (yac b1.out hb);clear hb)
  | (go_at_call 6;(with_reducible refine(VA _ (by (repeat (first|exact zJ _ _|assumption|refine yab ?_ _|refine zL ?_|refine yac ?_ (by assumption)|refine yaa ?_ _|refine zO ?_ (by simp<;>omega) _|refine zP ?_ (by simp<;>omega) _)))).mono ?_);rintro e w1 ⟨rfl,hb⟩;have k0:w1.cell? ⟨w.heap.size,0,none⟩=some (.slice (some ⟨bG,oG,none⟩) 1 cG):=(hb.cell (p:=⟨w.heap.size,0,none⟩) (by simp)).trans (by go_keep);have b1:Hid (Below w.heap.size w w1):=zh (by (repeat (first|exact zJ _ _|assumption|refine yab ?_ _|refine zL ?_|refine yac ?_ (by assumption)|refine yaa ?_ _|refine zO ?_ (by simp<;>omega) _|refine zP ?_ (by simp<;>omega) _)));clear hb))
 go_ret2
 exact⟨rfl,b5.out⟩
theorem yph {w:World} {v:Value} (h:VSchema w w.heap.size v wokenS):∃ bG oG cG bD oD cD bV oV cV b1 o1 c1 b2 o2 c2 A3 c3 A5 c5 A4 c4,v=.slice (some ⟨bG,oG,none⟩) 1 cG/\WkC w bG oG cG bD oD cD bV oV cV b1 o1 c1 b2 o2 c2 A3 c3 A5 c5 A4 c4/\
  VL kVar 8 w w.heap.size (.slice (some ⟨bV,oV,none⟩) 1 cV) [⟨⟨#[118]⟩,1,[⟨#[116]⟩],[2],⟨#[48]⟩,⟨#[109]⟩,[],[]⟩]/\VL kStr 1 w w.heap.size (.slice (some ⟨b1,o1,none⟩) 1 c1) [⟨#[116]⟩]/\VL kInt 1 w w.heap.size (.slice (some ⟨b2,o2,none⟩) 1 c2) [2]/\VL kStage 3 w w.heap.size (.slice A3 0 c3) []/\VL kAttr 4 w w.heap.size (.slice A5 0 c5) []:=by
 obtain⟨AG,cG,rfl,hG,_⟩:=h.val
 obtain⟨bG,oG,vs,rfl,zG,_,rG,kG⟩:=h.get (k:=0) rfl
 obtain⟨v1,v2,v3,rfl,_,hD,hV,hA⟩:=kG
 obtain⟨AD,cD,rfl,hD1,_⟩:=hD.val
 obtain⟨bD,oD,vs,rfl,zD,_,rD,kD⟩:=hD.get (k:=0) rfl
 obtain⟨rfl,_⟩:=kD
 obtain⟨AV,cV,rfl,hV1,_⟩:=hV.val
 obtain⟨bV,oV,vs,rfl,zV,_,rV,kV⟩:=hV.get (k:=0) rfl
 obtain⟨A4,c4,rfl,_,_⟩:=hA.val
 obtain⟨u1,u2,u3,u4,rfl,_,_,_,_,g1,g2,g3,g4⟩:=kV
 obtain⟨A1,c1,rfl,hc1,_⟩:=g1.val
 obtain⟨b1,o1,vs,rfl,z1,_,r1,k1⟩:=g1.get (k:=0) rfl
 obtain⟨rfl,_⟩:=k1
 obtain⟨A2,c2,rfl,hc2,_⟩:=g2.val
 obtain⟨b2,o2,vs,rfl,z2,_,r2,k2⟩:=g2.get (k:=0) rfl
 obtain⟨rfl,_⟩:=k2
 obtain⟨A3,c3,rfl,_,_⟩:=g3.val
 obtain⟨A5,c5,rfl,_,_⟩:=g4.val
 simp only[Nat.zero_mul,Nat.add_zero] at rG rD rV r1 r2
 exact⟨bG,oG,cG,bD,oD,cD,bV,oV,cV,b1,o1,c1,b2,o2,c2,A3,c3,A5,c5,A4,c4,rfl,⟨⟨⟨hG,hD1,hV1,hc1,hc2⟩,zG,zD,zV,z1,z2⟩,rG 0 _ rfl,rG 1 _ rfl,rG 2 _ rfl,rG 3 _ rfl,rD 0 _ rfl,rD 1 _ rfl,rD 2 _ rfl,rV 0 _ rfl,rV 1 _ rfl,rV 2 _ rfl,rV 3 _ rfl,rV 4 _ rfl,rV 5 _ rfl,rV 6 _ rfl,rV 7 _ rfl,r1 0 _ rfl,r2 0 _ rfl⟩,hV,g1,g2,g3,g4⟩
theorem rowN4 {w:World} {bG oG cG bD oD cD bV oV cV b1 o1 c1 b2 o2 c2:Nat} {A3:Option Addr} {c3:Nat} {A5:Option Addr} {c5:Nat} {A4:Option Addr} {c4:Nat} (h:WkC w bG oG cG bD oD cD bV oV cV b1 o1 c1 b2 o2 c2 A3 c3 A5 c5 A4 c4):w.rangeAt bG oG [.string ⟨#[47]⟩,.slice (some ⟨bD,oD,none⟩) 1 cD,.slice (some ⟨bV,oV,none⟩) 1 cV,.slice A4 0 c4]:=by
 obtain⟨_,f0,f1,f2,f3,f4,f5,f6,f7,f8,f9,f10,f11,f12,f13,f14,f15,f16⟩:=h
 intro j v hj
 match j,hj with
 | 0,hj=>injection hj with hj;rw[<- hj];exact f0
 | 1,hj=>injection hj with hj;rw[<- hj];exact f1
 | 2,hj=>injection hj with hj;rw[<- hj];exact f2
 | 3,hj=>injection hj with hj;rw[<- hj];exact f3
theorem rowN8 {w:World} {bG oG cG bD oD cD bV oV cV b1 o1 c1 b2 o2 c2:Nat} {A3:Option Addr} {c3:Nat} {A5:Option Addr} {c5:Nat} {A4:Option Addr} {c4:Nat} (h:WkC w bG oG cG bD oD cD bV oV cV b1 o1 c1 b2 o2 c2 A3 c3 A5 c5 A4 c4):w.rangeAt bV oV [.string ⟨#[118]⟩,.int .i64 1,.slice (some ⟨b1,o1,none⟩) 1 c1,.slice (some ⟨b2,o2,none⟩) 1 c2,.string ⟨#[48]⟩,.string ⟨#[109]⟩,.slice A3 0 c3,.slice A5 0 c5]:=by
 obtain⟨_,f0,f1,f2,f3,f4,f5,f6,f7,f8,f9,f10,f11,f12,f13,f14,f15,f16⟩:=h
 intro j v hj
 match j,hj with
 | 0,hj=>injection hj with hj;rw[<- hj];exact f7
 | 1,hj=>injection hj with hj;rw[<- hj];exact f8
 | 2,hj=>injection hj with hj;rw[<- hj];exact f9
 | 3,hj=>injection hj with hj;rw[<- hj];exact f10
 | 4,hj=>injection hj with hj;rw[<- hj];exact f11
 | 5,hj=>injection hj with hj;rw[<- hj];exact f12
 | 6,hj=>injection hj with hj;rw[<- hj];exact f13
 | 7,hj=>injection hj with hj;rw[<- hj];exact f14
theorem find_w (v:Value) (w:World) (hV:VSchema w w.heap.size v wokenS) (hw:Ws w) :
  Calls Tryz.prog 51 #[.agg #[v],.string ⟨#[47]⟩,.string ⟨#[118]⟩] w fun e w'=>∃ E1 d1 E2 d2 E3 d3 E4 d4,e=.returned (.tuple #[.agg #[.string ⟨#[118]⟩,.int .i64 1,.slice E1 1 d1,.slice E2 1 d2,.string ⟨#[48]⟩,.string ⟨#[109]⟩,.slice E3 0 d3,.slice E4 0 d4],.int .i64 0])/\
   VL kStr 1 w' w'.heap.size (.slice E1 1 d1) [⟨#[116]⟩]/\VL kInt 1 w' w'.heap.size (.slice E2 1 d2) [2]/\VL kStage 3 w' w'.heap.size (.slice E3 0 d3) []/\VL kAttr 4 w' w'.heap.size (.slice E4 0 d4) []/\Below w.heap.size w w':=by
 have VA:=fun w' (hb:Below w.heap.size w w')=>(show Calls Tryz.prog 6 #[.agg #[v]] w' fun e w2=>e=.returned (.bool true)/\Below w'.heap.size w' w2 by
  have h:=ycu v wokenS w' ((VL.keeps yah hV hb).lifts yai hb.size) ygy (hw.up hb)
  rw[yf9] at h
  exact h)
 have GP:=fun w' (hb:Below w.heap.size w w')=>(show Calls Tryz.prog 13 #[.agg #[v],.string ⟨#[47]⟩] w' fun e w2=>e=.returned (.int .i64 0)/\Below w'.heap.size w' w2 by
  have h:=ydv v wokenS ⟨#[47]⟩ w' ((VL.keeps yah hV hb).lifts yai hb.size)
  rw[show (wokenS.findIdx? fun x=>bl x.path==bl ⟨#[47]⟩)=some 0 by decide] at h
  exact h)
 obtain⟨bG,oG,cG,bD,oD,cD,bV,oV,cV,b1,o1,c1,b2,o2,c2,A3,c3,A5,c5,A4,c4,rfl,hk,l1,l2,l3,l4,l5⟩:=yph hV
 have IX:=fun w' (hb:Below w.heap.size w w')=>(show Calls Tryz.prog 67 #[.agg #[.string ⟨#[47]⟩,.slice (some ⟨bD,oD,none⟩) 1 cD,.slice (some ⟨bV,oV,none⟩) 1 cV,.slice A4 0 c4],.string ⟨#[118]⟩] w' fun e w2=>e=.returned (.int .i64 0)/\Below w'.heap.size w' w2 by
  have h:=yov ⟨#[47]⟩ (.slice (some ⟨bD,oD,none⟩) 1 cD) (.slice (some ⟨bV,oV,none⟩) 1 cV) (.slice A4 0 c4) [⟨⟨#[118]⟩,1,[⟨#[116]⟩],[2],⟨#[48]⟩,⟨#[109]⟩,[],[]⟩] ⟨#[118]⟩ w' ((VL.keeps ybd l1 hb).lifts yb2 hb.size)
  rw[show ([(⟨⟨#[118]⟩,1,[⟨#[116]⟩],[2],⟨#[48]⟩,⟨#[109]⟩,[],[]⟩:VarD)].findIdx? fun x=>bl x.name==bl ⟨#[118]⟩)=some 0 by decide] at h
  exact h)
 have CV:=fun w' (hb:Below w.heap.size w w')=>(show Calls Tryz.prog 56 #[.agg #[.string ⟨#[118]⟩,.int .i64 1,.slice (some ⟨b1,o1,none⟩) 1 c1,.slice (some ⟨b2,o2,none⟩) 1 c2,.string ⟨#[48]⟩,.string ⟨#[109]⟩,.slice A3 0 c3,.slice A5 0 c5]] w' _ from ynt ⟨⟨#[118]⟩,1,[⟨#[116]⟩],[2],⟨#[48]⟩,⟨#[109]⟩,[],[]⟩ (.slice (some ⟨b1,o1,none⟩) 1 c1) (.slice (some ⟨b2,o2,none⟩) 1 c2) (.slice A3 0 c3) (.slice A5 0 c5) w' ((VL.keeps yav l2 hb).lifts yao hb.size) ((VL.keeps ybr l3 hb).lifts ybg hb.size) ((VL.keeps ybe l4 hb).lifts ya5 hb.size) ((VL.keeps yaq l5 hb).lifts yap hb.size) (by decide))
 obtain⟨⟨⟨q1,q2,q3,q4,q5⟩,_⟩,_⟩:=id hk
 have q1:(1:Int)<=(cG:Int):=by omega
 have q3:(1:Int)<=(cV:Int):=by omega
 have HK:=zh hk
 clear hV hw hk l1 l2 l3 l4 l5 q2 q4 q5
 go_enter Tryz.func51,Tryz.ntmps51
 go_wp2_with fail
 have zy:(w.alloc (.cells #[.slice (some ⟨bG,oG,none⟩) 1 cG] 24)).heap.size=w.heap.size+1:=by simp
 have zx:((w.alloc (.cells #[.slice (some ⟨bG,oG,none⟩) 1 cG] 24)).alloc (.cells #[.string ⟨#[]⟩,.int .i64 0,.slice none 0 0,.slice none 0 0,.string ⟨#[]⟩,.string ⟨#[]⟩,.slice none 0 0,.slice none 0 0] 41)).heap.size=w.heap.size+2:=by simp
 have kx:((w.alloc (.cells #[.slice (some ⟨bG,oG,none⟩) 1 cG] 24)).alloc (.cells #[.string ⟨#[]⟩,.int .i64 0,.slice none 0 0,.slice none 0 0,.string ⟨#[]⟩,.string ⟨#[]⟩,.slice none 0 0,.slice none 0 0] 41)).cell? ⟨w.heap.size,0,none⟩=some (.slice (some ⟨bG,oG,none⟩) 1 cG):=by go_keep
 have kz:Bk ((w.alloc (.cells #[.slice (some ⟨bG,oG,none⟩) 1 cG] 24)).alloc (.cells #[.string ⟨#[]⟩,.int .i64 0,.slice none 0 0,.slice none 0 0,.string ⟨#[]⟩,.string ⟨#[]⟩,.slice none 0 0,.slice none 0 0] 41)) (w.heap.size+1) #[.string ⟨#[]⟩,.int .i64 0,.slice none 0 0,.slice none 0 0,.string ⟨#[]⟩,.string ⟨#[]⟩,.slice none 0 0,.slice none 0 0] 41:=by
  have:=Bk.new (w.alloc (.cells #[.slice (some ⟨bG,oG,none⟩) 1 cG] 24)) #[.string ⟨#[]⟩,.int .i64 0,.slice none 0 0,.slice none 0 0,.string ⟨#[]⟩,.string ⟨#[]⟩,.slice none 0 0,.slice none 0 0] 41
  rwa [zy] at this
 have bx:Below w.heap.size w ((w.alloc (.cells #[.slice (some ⟨bG,oG,none⟩) 1 cG] 24)).alloc (.cells #[.string ⟨#[]⟩,.int .i64 0,.slice none 0 0,.slice none 0 0,.string ⟨#[]⟩,.string ⟨#[]⟩,.slice none 0 0,.slice none 0 0] 41)):=by (repeat (first|exact zJ _ _|assumption|refine yab ?_ _|refine zL ?_|refine yac ?_ (by assumption)|refine yaa ?_ _|refine zO ?_ (by simp<;>omega) _|refine zP ?_ (by simp<;>omega) _))
 generalize hwx:(w.alloc (.cells #[.slice (some ⟨bG,oG,none⟩) 1 cG] 24)).alloc (.cells #[.string ⟨#[]⟩,.int .i64 0,.slice none 0 0,.slice none 0 0,.string ⟨#[]⟩,.string ⟨#[]⟩,.slice none 0 0,.slice none 0 0] 41)=wx at *
 have HB:=zh (show ∀ w2,Below wx.heap.size wx w2->Below w.heap.size w w2 from fun w2 hb=>bx.trans (hb.mono bx.size))
 have HC:=zh (show ∀ w2,Below wx.heap.size wx w2->w2.cell? ⟨w.heap.size,0,none⟩=some (.slice (some ⟨bG,oG,none⟩) 1 cG) from fun w2 hb=>(hb.cell (p:=⟨w.heap.size,0,none⟩) (show w.heap.size<_ by omega)).trans kx)
 have HZ:=zh (show ∀ w2,Below wx.heap.size wx w2->Bk w2 (w.heap.size+1) #[.string ⟨#[]⟩,.int .i64 0,.slice none 0 0,.slice none 0 0,.string ⟨#[]⟩,.string ⟨#[]⟩,.slice none 0 0,.slice none 0 0] 41 from fun w2 hb=>kz.below hb (by omega))
 have HW2:=zh (show ∀ w2,Below wx.heap.size wx w2->WkC w2 bG oG cG bD oD cD bV oV cV b1 o1 c1 b2 o2 c2 A3 c3 A5 c5 A4 c4 from fun w2 hb=>HK.out.up (bx.trans (hb.mono bx.size)))
 have HS:=zh zx
 clear hwx zy zx kx kz bx
 go_wp2_with (first
  | (go_at_call 67;(with_reducible refine(IX _ (HB.out _ p2)).mono ?_);rintro e w3 ⟨rfl,hb⟩;have p3:Below wx.heap.size wx w3:=yac p2 hb;clear hb f0 f1 f2 f3 f4 f5 f6 f7 f8 f9 f10 f11 f12 f13 f14 f15 f16;have k0:=HC.out _ p3;obtain⟨_,f0,f1,f2,f3,f4,f5,f6,f7,f8,f9,f10,f11,f12,f13,f14,f15,f16⟩:=HW2.out _ p3)
  | (go_at_call 13;(with_reducible refine(GP _ (HB.out _ p1)).mono ?_);rintro e w2 ⟨rfl,hb⟩;have p2:Below wx.heap.size wx w2:=yac p1 hb;clear hb;have k0:=HC.out _ p2;obtain⟨_,f0,f1,f2,f3,f4,f5,f6,f7,f8,f9,f10,f11,f12,f13,f14,f15,f16⟩:=HW2.out _ p2)
  | (go_at_call 6;(with_reducible refine(VA _ (HB.out _ (Below.refl _ _))).mono ?_);rintro e w1 ⟨rfl,p1⟩;have k0:=HC.out _ p1))
 have hw3:Below wx.heap.size wx w3.drew:=Below.drew p3
 have hz3:wx.heap.size=w.heap.size+2:=HS.out
 have hw4:Below (w.heap.size+1) wx w3.drew:=hw3.mono (by omega)
 refine wp_region_noPanic ?_
 refine wp_region_held_drew (S:=fun w'=>(w'.cell? ⟨w.heap.size,0,none⟩=some (.slice (some ⟨bG,oG,none⟩) 1 cG)/\WkC w' bG oG cG bD oD cD bV oV cV b1 o1 c1 b2 o2 c2 A3 c3 A5 c5 A4 c4)/\Below w.heap.size w w'/\Below (w.heap.size+1) wx w') (by kernel_rfl) ⟨⟨HC.out _ hw3,HW2.out _ hw3⟩,HB.out _ hw3,hw4⟩ (fun hHeld=>?_)
 have Z0:Bk w3.drew (w.heap.size+1) #[.string ⟨#[]⟩,.int .i64 0,.slice none 0 0,.slice none 0 0,.string ⟨#[]⟩,.string ⟨#[]⟩,.slice none 0 0,.slice none 0 0] 41:=HZ.out _ hw3
 have hZw:w.heap.size+2<=w3.drew.heap.size:=by have:=hw3.size;omega
 generalize hw0:w3.drew=w0 at hHeld Z0 hZw ⊢
 clear hw0 hw3 hw4 p1 p2 p3 k0 f0 f1 f2 f3 f4 f5 f6 f7 f8 f9 f10 f11 f12 f13 f14 f15 f16
 refine tVal 0 29 (.pointer (some ⟨w.heap.size,0,none⟩)) hHeld (by kernel_rfl) (fun w' hSw=>?_) ?_
 ·simp only[List.getElem?_toArray,List.getElem?_cons_zero,Option.map_some,Option.some.injEq];first|(go_simp;done)|(with_reducible rfl)|(go_simp;omega)|(go_simp;go_show;fail)
 simp only[Act.put,zB,zC,zD]
 refine tVal 1 30 (.slice (some ⟨bG,oG,none⟩) 1 cG) hHeld (by kernel_rfl) (fun w' hSw=>?_) ?_
 ·obtain⟨⟨q0,_,g0,g1,g2,g3,g4,g5,g6,g7,g8,g9,g10,g11,g12,g13,g14,g15,g16⟩,r6,r7⟩:=hSw;simp only[zE,zF,zG,zH,zI];first|(go_simp;done)|(with_reducible rfl)|(go_simp;omega)
 simp only[Act.put,zB,zC,zD]
 refine tRun [(2,31,some (.int .i64 0))] hHeld (by kernel_rfl) ?_
 simp only[runA,Act.put,zB,zC,zD]
 refine tVal 3 32 (.pointer (some ⟨bG,oG,none⟩)) hHeld (by kernel_rfl) (fun w' hSw=>?_) ?_
 ·simp only[zE,zF,zG,zH,zI];first|(go_simp;done)|(with_reducible rfl)|(go_simp;omega)
 simp only[Act.put,zB,zC,zD]
 refine tVal 4 33 (.pointer (some ⟨bG,oG+2,none⟩)) hHeld (by kernel_rfl) (fun w' hSw=>?_) ?_
 ·simp only[zE,zF,zG,zH,zI];first|(go_simp;done)|(with_reducible rfl)|(go_simp;omega)
 simp only[Act.put,zB,zC,zD]
 refine tVal 5 34 (.slice (some ⟨bV,oV,none⟩) 1 cV) hHeld (by kernel_rfl) (fun w' hSw=>?_) ?_
 ·obtain⟨⟨q0,_,g0,g1,g2,g3,g4,g5,g6,g7,g8,g9,g10,g11,g12,g13,g14,g15,g16⟩,r6,r7⟩:=hSw;simp only[zE,zF,zG,zH,zI];first|(go_simp;done)|(with_reducible rfl)|(go_simp;omega)
 simp only[Act.put,zB,zC,zD]
 refine tVal 6 35 (.pointer (some ⟨w.heap.size,0,none⟩)) hHeld (by kernel_rfl) (fun w' hSw=>?_) ?_
 ·simp only[zE,zF,zG,zH,zI];first|(go_simp;done)|(with_reducible rfl)|(go_simp;omega)
 simp only[Act.put,zB,zC,zD]
 refine tVal 7 36 (.slice (some ⟨bG,oG,none⟩) 1 cG) hHeld (by kernel_rfl) (fun w' hSw=>?_) ?_
 ·obtain⟨⟨q0,_,g0,g1,g2,g3,g4,g5,g6,g7,g8,g9,g10,g11,g12,g13,g14,g15,g16⟩,r6,r7⟩:=hSw;simp only[zE,zF,zG,zH,zI];first|(go_simp;done)|(with_reducible rfl)|(go_simp;omega)
 simp only[Act.put,zB,zC,zD]
 refine tRun [(8,37,some (.int .i64 0))] hHeld (by kernel_rfl) ?_
 simp only[runA,Act.put,zB,zC,zD]
 refine tVal 9 38 (.pointer (some ⟨bG,oG,none⟩)) hHeld (by kernel_rfl) (fun w' hSw=>?_) ?_
 ·simp only[zE,zF,zG,zH,zI];first|(go_simp;done)|(with_reducible rfl)|(go_simp;omega)
 simp only[Act.put,zB,zC,zD]
 refine tLoad 10 39 55 (.tmp 38) bG oG [.string ⟨#[47]⟩,.slice (some ⟨bD,oD,none⟩) 1 cD,.slice (some ⟨bV,oV,none⟩) 1 cV,.slice A4 0 c4] hHeld (by kernel_rfl) (by kernel_rfl) rfl (fun w' hw'=>rowN4 hw'.1.2) Tryz.underlying55 rfl (by kernel_rfl) ?_
 simp only[Act.put,zB,zC,zD]
 refine tRun [(11,40,some (.string ⟨#[118]⟩))] hHeld (by kernel_rfl) ?_
 simp only[runA,Act.put,zB,zC,zD]
 refine tEnter 12 41 67 #[.agg #[.string ⟨#[47]⟩,.slice (some ⟨bD,oD,none⟩) 1 cD,.slice (some ⟨bV,oV,none⟩) 1 cV,.slice A4 0 c4],.string ⟨#[118]⟩] (by kernel_rfl) (by kernel_rfl) (by kernel_rfl) (IX _ hHeld.2.1) ?_
 rintro e w4 ⟨rfl,hb⟩
 refine⟨_,rfl,⟨⟨(hb.cell (p:=⟨w.heap.size,0,none⟩) (World.block_lt_of_cell? _ _ hHeld.1.1)).trans hHeld.1.1,hHeld.1.2.up hb⟩,yac hHeld.2.1 hb,hHeld.2.2.trans (hb.mono (by have:=hHeld.2.2.size;omega))⟩,fun hHeld=>?_⟩
 simp only[Act.put,zB,zC,zD]
 have Z1:=Z0.up hb
 have hz4:w0.heap.size<=w4.heap.size:=hb.size
 have hz0:w.heap.size+2<=w4.heap.size:=by have:=hZw;omega
 clear hb Z0
 refine tVal 13 42 (.pointer (some ⟨bV,oV,none⟩)) hHeld (by kernel_rfl) (fun w' hSw=>?_) ?_
 ·simp only[zE,zF,zG,zH,zI];first|(go_simp;done)|(with_reducible rfl)|(go_simp;omega)
 simp only[Act.put,zB,zC,zD]
 refine tLoad 14 43 41 (.tmp 42) bV oV [.string ⟨#[118]⟩,.int .i64 1,.slice (some ⟨b1,o1,none⟩) 1 c1,.slice (some ⟨b2,o2,none⟩) 1 c2,.string ⟨#[48]⟩,.string ⟨#[109]⟩,.slice A3 0 c3,.slice A5 0 c5] hHeld (by kernel_rfl) (by kernel_rfl) rfl (fun w' hw'=>rowN8 hw'.1.2) Tryz.underlying41 rfl (by kernel_rfl) ?_
 simp only[Act.put,zB,zC,zD]
 refine tEnter 15 44 56 #[.agg #[.string ⟨#[118]⟩,.int .i64 1,.slice (some ⟨b1,o1,none⟩) 1 c1,.slice (some ⟨b2,o2,none⟩) 1 c2,.string ⟨#[48]⟩,.string ⟨#[109]⟩,.slice A3 0 c3,.slice A5 0 c5]] (by kernel_rfl) (by kernel_rfl) (by kernel_rfl) (CV _ hHeld.2.1) ?_
 rintro e w5 ⟨E1,d1,E2,d2,E3,d3,E4,d4,rfl,hl1,hl2,hl3,hl4,hb⟩
 refine⟨_,rfl,⟨⟨(hb.cell (p:=⟨w.heap.size,0,none⟩) (World.block_lt_of_cell? _ _ hHeld.1.1)).trans hHeld.1.1,hHeld.1.2.up hb⟩,yac hHeld.2.1 hb,hHeld.2.2.trans (hb.mono (by have:=hHeld.2.2.size;omega))⟩,fun hHeld=>?_⟩
 simp only[Act.put,zB,zC,zD]
 have Z2:=Z1.up hb
 clear hb Z1
 have hz5:w0.heap.size<=w4.heap.size:=by have:=hz4;omega
 have Bs:Below (w.heap.size+1) w5 (w5.setRow (w.heap.size+1) #[.string ⟨#[118]⟩,.int .i64 1,.slice E1 1 d1,.slice E2 1 d2,.string ⟨#[48]⟩,.string ⟨#[109]⟩,.slice E3 0 d3,.slice E4 0 d4]):=yby (Below.refl _ _) (Nat.le_refl _) _
 have hot:∀ g,w4.heap.size<=g->g<w5.heap.size->(w5.setRow (w.heap.size+1) #[.string ⟨#[118]⟩,.int .i64 1,.slice E1 1 d1,.slice E2 1 d2,.string ⟨#[48]⟩,.string ⟨#[109]⟩,.slice E3 0 d3,.slice E4 0 d4]).heap[g]?=w5.heap[g]?:=fun g hg _=>setRow_other _ _ _ _ (by omega)
 have P1:=zh (hl1.blocks yaf hot (B':=0))
 have P2:=zh (hl2.blocks yak hot (B':=0))
 have P3:=zh (hl3.blocks ya7 hot (B':=0))
 have hE4':E4=none->d4=0:=by obtain⟨A',n',c',e',_,_,_,h4,_⟩:=hl4;injection e' with e1 e2 e3;subst e1 e3;exact h4
 have hB6:Below w.heap.size w (w5.setRow (w.heap.size+1) #[.string ⟨#[118]⟩,.int .i64 1,.slice E1 1 d1,.slice E2 1 d2,.string ⟨#[48]⟩,.string ⟨#[109]⟩,.slice E3 0 d3,.slice E4 0 d4]):=hHeld.2.1.trans (Bs.mono (Nat.le_succ _))
 refine tStoreRow 16 41 (.tmp 6) (.tmp 44) (w.heap.size+1) #[.string ⟨#[118]⟩,.int .i64 1,.slice E1 1 d1,.slice E2 1 d2,.string ⟨#[48]⟩,.string ⟨#[109]⟩,.slice E3 0 d3,.slice E4 0 d4] 41 #[.string ⟨#[]⟩,.int .i64 0,.slice none 0 0,.slice none 0 0,.string ⟨#[]⟩,.string ⟨#[]⟩,.slice none 0 0,.slice none 0 0] (by kernel_rfl) (by kernel_rfl) (by kernel_rfl) rfl rfl Z2 (by kernel_rfl) rfl (by simp[Value.oneCell']) ⟨⟨(Bs.cell (p:=⟨w.heap.size,0,none⟩) (Nat.lt_succ_self _)).trans hHeld.1.1,HK.out.up hB6⟩,hB6,hHeld.2.2.trans Bs⟩ (fun hHeld=>?_)
 have kF:=Z2.row #[.string ⟨#[118]⟩,.int .i64 1,.slice E1 1 d1,.slice E2 1 d2,.string ⟨#[48]⟩,.string ⟨#[109]⟩,.slice E3 0 d3,.slice E4 0 d4]
 clear hot Bs Z2 hl1 hl2 hl3
 generalize hwf:w5.setRow (w.heap.size+1) #[.string ⟨#[118]⟩,.int .i64 1,.slice E1 1 d1,.slice E2 1 d2,.string ⟨#[48]⟩,.string ⟨#[109]⟩,.slice E3 0 d3,.slice E4 0 d4]=wf at *
 clear hwf
 refine tRun [(17,7,some (.int .i64 0))] hHeld (by kernel_rfl) ?_
 simp only[runA,Act.put,zB,zC,zD]
 refine wpAnyH_done (by kernel_rfl) (tNoP ?_) _
 clear hHeld
 have H6:=zh hB6
 clear hB6
 go_wp2
 have hL:=yaw (P:=Tryz.prog) kF Tryz.underlying41 rfl (by kernel_rfl)
 refine bodyPost_ret (ybs rfl rfl hL rfl) rfl ?_
 exact⟨E1,d1,E2,d2,E3,d3,E4,d4,rfl,P1.out.vl yao (Nat.zero_le _) (by decide),P2.out.vl ybg (Nat.zero_le _) (by decide),P3.out.vl ya5 (Nat.zero_le _) (by decide),⟨E4,0,d4,rfl,rfl,Nat.zero_le _,by decide,hE4',fun h=>absurd h (by omega)⟩,H6.out⟩
end Go.Proofs.YtajmjllhdcdkmaaGreatDoor
