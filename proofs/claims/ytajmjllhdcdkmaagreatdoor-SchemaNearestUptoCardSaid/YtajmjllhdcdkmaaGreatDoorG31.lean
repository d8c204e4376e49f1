import Derived.Test.YtajmjllhdcdkmaaGreatDoorZ
import Derived.Test.YtajmjllhdcdkmaaGreatDoorG29
import Derived.Test.YtajmjllhdcdkmaaGreatDoorG30
import Derived.Test.YtajmjllhdcdkmaaGreatDoorG26
import Derived.Test.YtajmjllhdcdkmaaGreatDoorG27
import Derived.Shelf.Abstract
import Derived.Shelf.RegionOpen
import Derived.OwnWalkIn
import Derived.TacticsInMore
import Derived.LoopNIn
import Derived.LoopIn
set_option maxRecDepth 100000
set_option maxHeartbeats 6400000
namespace Go.Proofs.YtajmjllhdcdkmaaGreatDoor
open Go.RowKit Dg Q Num Str
def Cutl (T L R:ByteArray):Prop:=∃ i:Nat,Lib.indexByte T.data.toList 10=(i:Int)/\i+1<=T.size/\T.size<=1000/\T.extract 0 (i+1)=L/\T.extract (i+1) T.size=R
theorem yht {W:World} {Bs:Nat} {t:TypeId} {v:Value} (u:Value) (h:Boxed W Bs t v):Boxed (W.setCell ⟨Bs,0,none⟩ u).drew Bs t u/\W.grownBy (W.setCell ⟨Bs,0,none⟩ u).drew (some Bs):=by
 refine⟨h.set u,?_⟩
 have g:=grownBy_setCell' W Bs u
 exact⟨g.os,g.tape,g.output,g.size,g.block⟩
theorem yql (n l Bs:Nat) (hn:1<=n) (T0 T1 T2 L1 L2 L3:ByteArray) (c1:Cutl T0 L1 T1) (c2:Cutl T1 L2 T2) (c3:Cutl T2 L3 ⟨#[]⟩) (J:List ByteArray->World->Prop) (W:World) (hJ:∀ s A B,J s A->A.grownBy B (some Bs)->J s B)
  (hY:∀ pre x W1,pre++[x] <+: [L1,L2,L3]->J pre W1->YieldAt Fence.wide (n - 1) Tryz.prog l #[.string x] W1 fun e W'=>e=.returned (.bool true)/\J (pre++[x]) W'/\W'.heap[Bs]?=W1.heap[Bs]?)
  (h0:J [] W) (hB:Boxed W Bs 9 (.string T0)) :
  CallsIn Fence.wide n Tryz.prog 91 #[.func (.yield l) #[] #[],.pointer (some ⟨Bs,0,none⟩)] W fun e W'=>(∃ v,e=.returned v)/\J [L1,L2,L3] W':=by
 obtain⟨i1,a1,b1,s1,d1,e1⟩:=c1
 obtain⟨i2,a2,b2,s2,d2,e2⟩:=c2
 obtain⟨i3,a3,b3,s3,d3,e3⟩:=c3
 have B0:=zh hB
 have J0:=zh h0
 have X1:=fun w=>Tryz.strings_IndexByte T0 10 w
 have X2:=fun w=>Tryz.strings_IndexByte T1 10 w
 have X3:=fun w=>Tryz.strings_IndexByte T2 10 w
 have n1:0<(T0.size:Int):=by omega
 have n2:0<(T1.size:Int):=by omega
 have n3:0<(T2.size:Int):=by omega
 have n4:((⟨#[]⟩:ByteArray).size:Int)=0:=rfl
 clear hB h0
 refine callsIn_of_wp Tryz.func91 rfl trivial ?_ rfl
 simp only[Tryz.ntmps91,List.size_toArray,List.length_cons,List.length_nil,Nat.reduceAdd,Nat.reduceSub,Array.replicate_succ,Array.replicate_zero,List.push_toArray,List.append_toArray,List.nil_append,List.cons_append]
 gi_wp2
 refine wpIn_loop_rounds 4 ?_
 -- round 1
 rw[roundsIn_succ]
 have k0:=B0.out.cell
 have q0:=B0.out.frozen
 gi_wp2_with (refine⟨trivial,?_⟩;gi_at_call 92;refine(callsIn_wide.2 (X1 _)).mono ?_;rintro e w' ⟨rfl,rfl⟩;rw[show ((10:Int).toNat.toUInt8)=10 from rfl,a1])
 gi_region
 obtain⟨x1,y1⟩:=yht (.string T1) B0.out
 have JJ:=hJ _ _ _ J0.out y1
 have BB:=zh x1
 clear x1 y1 k0 q0 B0 J0
 generalize (World.drew _)=wy at *
 obtain⟨fn1,tm1,as1,bo1,hy1,hR1⟩:=hY [] L1 wy (by simp) JJ
 clear JJ
 gi_wp2
 refine hR1.mono ?_
 rintro e W1 ⟨rfl,j1,m1⟩
 have J1:=zh j1
 have B1:=zh (show Boxed W1 Bs 9 (.string T1) from m1.trans BB.out)
 clear j1 m1 BB hR1 hy1
 gi_wp2
 -- round 2
 rw[roundsIn_succ]
 have k1:=B1.out.cell
 have q1:=B1.out.frozen
 gi_wp2_with (refine⟨trivial,?_⟩;gi_at_call 92;refine(callsIn_wide.2 (X2 _)).mono ?_;rintro e w' ⟨rfl,rfl⟩;rw[show ((10:Int).toNat.toUInt8)=10 from rfl,a2])
 gi_region
 obtain⟨x2,y2⟩:=yht (.string T2) B1.out
 have JJ:=hJ _ _ _ J1.out y2
 have BB:=zh x2
 clear x2 y2 k1 q1 B1 J1
 generalize (World.drew _)=wy at *
 obtain⟨fn2,tm2,as2,bo2,hy2,hR2⟩:=hY [L1] L2 wy (by simp) JJ
 clear JJ
 gi_wp2
 refine hR2.mono ?_
 rintro e W2 ⟨rfl,j2,m2⟩
 have J2:=zh j2
 have B2:=zh (show Boxed W2 Bs 9 (.string T2) from m2.trans BB.out)
 clear j2 m2 BB hR2 hy2
 gi_wp2
 -- round 3
 rw[roundsIn_succ]
 have k2:=B2.out.cell
 have q2:=B2.out.frozen
 gi_wp2_with (refine⟨trivial,?_⟩;gi_at_call 92;refine(callsIn_wide.2 (X3 _)).mono ?_;rintro e w' ⟨rfl,rfl⟩;rw[show ((10:Int).toNat.toUInt8)=10 from rfl,a3])
 gi_region
 obtain⟨x3,y3⟩:=yht (.string ⟨#[]⟩) B2.out
 have JJ:=hJ _ _ _ J2.out y3
 have BB:=zh x3
 clear x3 y3 k2 q2 B2 J2
 generalize (World.drew _)=wy at *
 obtain⟨fn3,tm3,as3,bo3,hy3,hR3⟩:=hY [L1,L2] L3 wy (by simp) JJ
 clear JJ
 gi_wp2
 refine hR3.mono ?_
 rintro e W3 ⟨rfl,j3,m3⟩
 have J3:=zh j3
 have B3:=zh (show Boxed W3 Bs 9 (.string ⟨#[]⟩) from m3.trans BB.out)
 clear j3 m3 BB hR3 hy3
 gi_wp2
 -- the text is at its end
 rw[roundsIn_succ]
 have k3:=B3.out.cell
 have q3:=B3.out.frozen
 gi_wp2
 go_end0
 exact⟨⟨_,rfl⟩,J3.out⟩
attribute [local go_sem] Oper.semAt_some
theorem yk2 (T:ByteArray) (w:World):Calls Tryz.prog 47 #[.string T] w fun e w'=>e=.returned (.func (.func 91) #[] #[.pointer (some ⟨w.heap.size,0,none⟩)])/\w'=w.alloc (.cells #[.string T] 9):=by
 have hmf:∀ (fn:Fn) (first cap:Array Value) (w:World),(Instr.makeFunc fn first cap).run Tryz.prog w=.ok (.func fn first cap) w:=fun _ _ _ _=>rfl
 go_enter Tryz.func47,Tryz.ntmps47
 go_wp2
 go_ret
 exact⟨rfl,rfl⟩
theorem cut_1:Cutl ⟨#[103,114,111,117,112,32,47,10,100,105,109,32,116,32,50,32,111,112,101,110,10,118,97,114,32,118,32,105,56,32,40,32,116,32,41,32,40,32,50,32,41,32,48,32,34,109,34,10]⟩ wl1 ⟨#[100,105,109,32,116,32,50,32,111,112,101,110,10,118,97,114,32,118,32,105,56,32,40,32,116,32,41,32,40,32,50,32,41,32,48,32,34,109,34,10]⟩:=⟨7,by decide +kernel,by decide,by decide,by decide,by decide⟩
theorem cut_2:Cutl ⟨#[100,105,109,32,116,32,50,32,111,112,101,110,10,118,97,114,32,118,32,105,56,32,40,32,116,32,41,32,40,32,50,32,41,32,48,32,34,109,34,10]⟩ wl2 ⟨#[118,97,114,32,118,32,105,56,32,40,32,116,32,41,32,40,32,50,32,41,32,48,32,34,109,34,10]⟩:=⟨12,by decide +kernel,by decide,by decide,by decide,by decide⟩
theorem cut_3:Cutl ⟨#[118,97,114,32,118,32,105,56,32,40,32,116,32,41,32,40,32,50,32,41,32,48,32,34,109,34,10]⟩ wl3 ⟨#[]⟩:=⟨26,by decide +kernel,by decide,by decide,by decide,by decide⟩
def Prs (w:World) (E R Rb:Nat) (k:Nat) (W:World):Prop:=Below w.heap.size w W/\Boxed W w.heap.size 24 (.slice none 0 0)/\Boxed W E 27 (.int .i64 0)/\Boxed W Rb 86 (.pointer (some ⟨R,0,none⟩))/\Stt R (w.heap.size+7) k W/\E=w.heap.size+1/\R=w.heap.size+2/\Rb=w.heap.size+3
theorem Prs.kept {w W W':World} {E R Rb k:Nat} (h:Prs w E R Rb k W) (hz:W.heap.size<=W'.heap.size) (ht:W'.tape=W.tape) (ho:W'.output=W.output) (hs:W'.os=W.os) (hw:∀ g,g<W.heap.size->g<w.heap.size+4\/w.heap.size+7<=g->W'.heap[g]?=W.heap[g]?):Prs w E R Rb k W':=by
 obtain⟨h1,h2,h3,h4,h5,e1,e2,e3⟩:=h
 refine⟨⟨hs.trans h1.os,ht.trans h1.tape,ho.trans h1.output,Nat.le_trans h1.size hz,fun i hi=>(hw i (Nat.lt_of_lt_of_le hi h1.size) (.inl (by omega))).trans (h1.block i hi)⟩,?_,?_,?_,?_,e1,e2,e3⟩
 ·exact(hw _ h2.lt (.inl (by omega))).trans h2
 ·exact(hw _ h3.lt (.inl (by omega))).trans h3
 ·exact(hw _ h4.lt (.inl (by omega))).trans h4
 ·exact h5.blocks hz (fun g a b=>hw g a (by omega)) h5.lt
theorem Prs.next {w W W':World} {E R Rb k k':Nat} (h:Prs w E R Rb k W) (hs:Stt R (w.heap.size+7) k' W') (hb:Below R W W') (hi:∀ i,i<w.heap.size+7->i≠R->W'.heap[i]?=W.heap[i]?):Prs w E R Rb k' W':=by
 obtain⟨h1,h2,h3,h4,h5,e1,e2,e3⟩:=h
 refine⟨h1.trans (hb.mono (by omega)),?_,?_,?_,hs,e1,e2,e3⟩
 ·exact(hi _ (by omega) (by omega)).trans h2
 ·exact(hi _ (by omega) (by omega)).trans h3
 ·exact(hi _ (by omega) (by omega)).trans h4
theorem ys9 (w:World) (hw:Ws w):Calls Tryz.prog 17 #[.string ⟨#[103,114,111,117,112,32,47,10,100,105,109,32,116,32,50,32,111,112,101,110,10,118,97,114,32,118,32,105,56,32,40,32,116,32,41,32,40,32,50,32,41,32,48,32,34,109,34,10]⟩] w fun e w'=>∃ A n c,e=.returned (.tuple #[.agg #[.slice A n c],.int .i64 0])/\VSchema w' w'.heap.size (.slice A n c) wokenS/\Below w.heap.size w w':=by
 obtain⟨TX,hTX⟩:∃ x:ByteArray,x=⟨#[103,114,111,117,112,32,47,10,100,105,109,32,116,32,50,32,111,112,101,110,10,118,97,114,32,118,32,105,56,32,40,32,116,32,41,32,40,32,50,32,41,32,48,32,34,109,34,10]⟩:=⟨_,rfl⟩
 rw[<- hTX]
 have C1:=cut_1
 rw[<- hTX] at C1
 have PR:=fun v w=>ys6 v w
 rw[<- hTX] at PR
 have LO:=fun w'=>yk2 TX w'
 clear hTX
 refine(callsIn_wide (n:=9)).1 ?_
 refine callsIn_of_wp_marks Tryz.func17 rfl trivial ?_ rfl
 simp only[Tryz.ntmps17,List.size_toArray,List.length_cons,List.length_nil,Nat.reduceAdd,Nat.reduceSub,Array.replicate_succ,Array.replicate_zero,List.push_toArray,List.append_toArray,List.nil_append,List.cons_append]
 gi_wp2_with (refine⟨trivial,?_⟩;(gi_at_call 47);refine(callsIn_wide.2 (LO _)).mono ?_;rintro e w' ⟨rfl,rfl⟩)
 obtain⟨w4,hw4⟩:∃ x,x=((((w.alloc (.cells #[.slice none 0 0] 24)).alloc (.cells #[.int .i64 0] 27)).alloc (.cells #[.slice none 0 0] 88)).alloc (.cells #[.pointer (some ⟨w.heap.size+1+1,0,none⟩)] 86)):=⟨_,rfl⟩
 have P0:Prs w (w.heap.size+1) (w.heap.size+1+1) (w.heap.size+1+1+1) 0 w4:=by
  rw[hw4]
  refine⟨by (repeat (first|exact zJ _ _|assumption|refine yab ?_ _|refine zL ?_|refine yac ?_ (by assumption)|refine yaa ?_ _|refine zO ?_ (by simp<;>omega) _|refine zP ?_ (by simp<;>omega) _)),?_,?_,?_,⟨by omega,?_⟩,rfl,rfl,rfl⟩
  ·exact(((Boxed.new w _ _).alloc _).alloc _).alloc _
  ·have h:=((Boxed.new (w.alloc (.cells #[.slice none 0 0] 24)) 27 (.int .i64 0)).alloc (.cells #[.slice none 0 0] 88)).alloc (.cells #[.pointer (some ⟨w.heap.size+1+1,0,none⟩)] 86)
   simpa using h
  ·have h:=Boxed.new (((w.alloc (.cells #[.slice none 0 0] 24)).alloc (.cells #[.int .i64 0] 27)).alloc (.cells #[.slice none 0 0] 88)) 86 (.pointer (some ⟨w.heap.size+1+1,0,none⟩))
   simpa using h
  ·have h:=(Boxed.new ((w.alloc (.cells #[.slice none 0 0] 24)).alloc (.cells #[.int .i64 0] 27)) 88 (.slice none 0 0)).alloc (.cells #[.pointer (some ⟨w.heap.size+1+1,0,none⟩)] 86)
   simp only[World.size_alloc] at h
   exact h
 have Z4:w4.heap.size=w.heap.size+4:=by rw[hw4];simp
 rw[<- hw4]
 clear hw4
 have P1:Prs w (w.heap.size+1) (w.heap.size+1+1) (w.heap.size+1+1+1) 0 (w4.alloc (.cells #[.string TX] 9)):=P0.kept (by simp) rfl rfl rfl (fun g h _=>Below.heap_alloc _ _ _ h)
 have B1:Boxed (w4.alloc (.cells #[.string TX] 9)) w4.heap.size 9 (.string TX):=Boxed.new _ _ _
 rw[Z4] at B1
 have Z5:(w4.alloc (.cells #[.string TX] 9)).heap.size=w.heap.size+5:=by simp[Z4]
 clear P0 Z4
 generalize w4.alloc (.cells #[.string TX] 9)=w5 at *
 rw[show w.heap.size+1+1+1+1=w.heap.size+4 from rfl]
 obtain⟨Bs,hBs⟩:∃ x,x=w.heap.size+4:=⟨_,rfl⟩
 rw[<- hBs] at B1 ⊢
 have HB:=zh hBs
 have HZ:=zh Z5
 clear hBs Z5
 generalize w.heap.size+1+1+1=Rb at *
 generalize w.heap.size+1+1=R at *
 generalize w.heap.size+1=E at *
 refine yfb rfl (by omega) (gf:=91) (lb:=#[.pointer (some ⟨Bs,0,none⟩)]) rfl trivial (enters_of Tryz.func91 (by kernel_rfl) rfl) Bs (by have:=HB.out;have:=HZ.out;omega) [wl1,wl2,wl3]
  (fun l J W hJ hY h0 hb=>yql _ l Bs (by omega) TX _ _ wl1 wl2 wl3 C1 cut_2 cut_3 J W hJ hY h0 (hb.trans B1)) rfl
  (fun pre W=>Prs w E R Rb pre.length W)
  (fun s A B row hs hg hr=>hs.kept hg.size hg.tape hg.output hg.os (fun g h1 h2=>hg.block g h1 (fun e=>by have:=hr g e.symm;have:=HB.out;have:=HZ.out;omega)))
  P1
  (fun x=>{ tmps:=#[.string TX,undef,.pointer (some ⟨w.heap.size,0,none⟩),.pointer (some ⟨E,0,none⟩),.pointer (some ⟨Rb,0,none⟩),.string x,undef,undef,.agg #[.slice none 0 0],.pointer (some ⟨R,0,none⟩),.string TX,.func (.func 91) #[] #[.pointer (some ⟨Bs,0,none⟩)],.string x,undef,undef,undef,undef,undef,undef,undef,undef,undef,undef,undef,undef,undef,undef,undef,undef,undef,undef,undef,undef,undef,undef,undef,undef,undef,undef],defers:=[] }) ?assign ?body ?done
 case assign=>
  intro l x W K hK
  gi_wp2
  exact hK
 case body=>
  intro l pre x W hp hlt hi
  have hzx:x.size<=9223372036854775807:=by
   have hm:x ∈ [wl1,wl2,wl3]:=hp.subset (by simp)
   simp only[List.mem_cons,List.not_mem_nil,or_false] at hm
   rcases hm with rfl|rfl|rfl<;>decide
  have h5:=HZ.out
  have hlo:w.heap.size+7<=W.heap.size:=by omega
  have hP:Prs w E R Rb pre.length W.drew:=hi.kept (Nat.le_refl _) rfl rfl rfl (fun _ _ _=>rfl)
  have LS:=yp9 R (w.heap.size+7) pre x W.drew hp hlo hP.2.2.2.2.1 (hw.up hP.1)
  have TS:=Tryz.strings_TrimSuffix x ⟨#[10]⟩ W.drew hzx
  have HP:=zh hi
  have HD:=zh hP
  have k0:=hi.2.2.2.1.cell
  have hd:1<=9 - 1 - 1:=by decide
  have hmx:Tryz.prog.follows .mixedOrders=true:=by kernel_rfl
  clear hP hi hw C1 P1 B1 LO PR hp hzx h5 hlo hlt
  gi_wp2
  gi_region_with_o (first|(refine⟨trivial,?_⟩;gi_at_call 48;refine(CallsIn.inRound l (callsIn_wide.2 LS)).mono ?_;rintro e w' ⟨rfl,q1,q2,q3⟩;have HN:=zh (And.intro (HD.out.next q1 q2 q3) q3);clear q1 q2 q3)|(refine⟨trivial,?_⟩;gi_at_call 49;refine(CallsIn.inRound l (callsIn_wide.2 TS)).mono ?_;rintro e w' ⟨rfl,rfl⟩))
  all_goals gi_wp2
  all_goals (obtain⟨_,_,_,_,_,_,e2,_⟩:=HP.out)
  all_goals exact⟨HN.out.2 Bs (by have:=HB.out;omega) (by have:=HB.out;omega),HN.out.2 _ (by have:=HZ.out;omega) (by have:=HZ.out;omega),HN.out.2 _ (by have:=HZ.out;omega) (by have:=HZ.out;omega),HN.out.1⟩
 case done=>
  intro W hlt hi hD
  obtain⟨v,hv,⟨A,n,c,rfl⟩,hV⟩:=hi.2.2.2.2.1.schema
  have hwW:=hw.up hi.1
  have PW:=PR (.slice A n c) W hV hwW
  have k0:=hi.2.2.2.1.cell
  have k1:W.cell? ⟨R,0,none⟩=some (.slice A n c):=hv.cell 0
  have HR:=zh hv
  have hne:E≠w.heap.size:=by have:=hi.2.2.2.2.2.1;omega
  have hne':w.heap.size≠E:=Ne.symm hne
  have HI:=zh hi
  have HK:=zh hD
  have HL:=zh hlt
  clear hi hV hwW hv hD hlt PR LO C1 hw P1 B1
  gi_wp2_with (refine⟨trivial,?_⟩;(gi_at_call 50);refine(callsIn_wide.2 PW).mono ?_;rintro e w6 ⟨rfl,b6⟩;have P6:=zh (HI.out.kept b6.size b6.tape b6.output b6.os (fun g h _=>b6.block g h));have K6:=zh ((b6.block _ HL.out).trans HK.out);have k0:=P6.out.2.2.2.1.cell;have k1:=P6.out.2.1.cell;have k2:=P6.out.2.1.frozen;have k3:=P6.out.2.2.1.cell;have k4:=P6.out.2.2.1.frozen;have k5:w6.cell? ⟨R,0,none⟩=some (.slice A n c):=(HR.out.up b6).cell 0)
  have R6:=zh (HR.out.up b6)
  clear k0 k1 k2 k3 k4 k5 b6 PW
  obtain⟨p1,p2,p3,p4,p5,e1,e2,e3⟩:=P6.out
  have hz:=HZ.out
  have oth:∀ g,g≠w.heap.size->g≠E->((w6.setCell ⟨w.heap.size,0,none⟩ (.slice A n c)).setCell ⟨E,0,none⟩ (.int .i64 0)).heap[g]?=w6.heap[g]?:=fun g h1 h2=>(yae _ _ _ _ h2).trans (yae _ _ _ _ h1)
  have S7:=(p2.set (.slice A n c)).other hne' (.int .i64 0)
  have E7:=(p3.other hne (.slice A n c)).set (.int .i64 0)
  have D7:=(oth w5.heap.size (by omega) (by omega)).trans K6.out
  have R7:Bk _ R #[.slice A n c] 88:=(oth R (by omega) (by omega)).trans R6.out
  have T7:Stt R (w.heap.size+7) 3 _:=p5.blocks (by simp only[size_setCell];exact Nat.le_refl _) (fun g _ b=>oth g (by omega) (by omega)) p5.lt
  have L7:Below w.heap.size w ((w6.setCell ⟨w.heap.size,0,none⟩ (.slice A n c)).setCell ⟨E,0,none⟩ (.int .i64 0)):=(p1.setCell (p:=⟨w.heap.size,0,none⟩) (Nat.le_refl _) _).setCell (p:=⟨E,0,none⟩) (by show w.heap.size<=E;omega) _
  clear P6 K6 p1 p2 p3 p4 p5 oth HI HK HL HR R6
  generalize (w6.setCell ⟨w.heap.size,0,none⟩ (.slice A n c)).setCell ⟨E,0,none⟩ (.int .i64 0)=w7 at *
  refine⟨by simp,.inl ⟨_,_,rfl,run_takeDeferred D7,?_⟩⟩
  have o8:∀ g,g≠w5.heap.size->(w7.putObj w5.heap.size (.deferred none)).heap[g]?=w7.heap[g]?:=fun g h=>World.putObj_heap_other h
  have S8:Boxed (w7.putObj w5.heap.size (.deferred none)) w.heap.size 24 (.slice A n c):=(o8 _ (by omega)).trans S7
  have E8:Boxed (w7.putObj w5.heap.size (.deferred none)) E 27 (.int .i64 0):=(o8 _ (by omega)).trans E7
  have R8:Bk (w7.putObj w5.heap.size (.deferred none)) R #[.slice A n c] 88:=(o8 _ (by omega)).trans R7
  have T8:Stt R (w.heap.size+7) 3 (w7.putObj w5.heap.size (.deferred none)):=T7.blocks (by simp) (fun g _ b=>o8 g (by omega)) T7.lt
  have L8:Below w.heap.size w (w7.putObj w5.heap.size (.deferred none)):=L7.trans ⟨rfl,rfl,rfl,by simp,fun i hi=>o8 i (by omega)⟩
  generalize w7.putObj w5.heap.size (.deferred none)=w8 at *
  obtain⟨v',hv',_,hV'⟩:=T8.schema
  have ev:v'=.slice A n c:=by
   have h1:=hv'.cell 0
   rw[R8.cell 0] at h1
   simpa using h1.symm
  subst ev
  have s0:=S8.cell
  have s1:=E8.cell
  show ∃ v,(results Tryz.f17 _).run Tryz.prog w8=.ok v w8/\_
  refine⟨.tuple #[.agg #[.slice A n c],.int .i64 0],by simp[results,Tryz.results17,go_sem,s0,s1],A,n,c,rfl,hV',L8⟩
theorem vl_cap {α:Type} {P:Rd α} {m:Nat} {w:World} {B:Nat} {A:Option Addr} {n c:Nat} {xs:List α} (h:VL P m w B (.slice A n c) xs):n<=c:=by
 obtain⟨_,_,_,e,_,h2,_⟩:=h
 injection e with e1 e2 e3
 rw[e2,e3];exact h2
theorem ytl (w:World) (hw:Ws w):Calls Tryz.prog 7 #[] w fun e w'=>e=.returned (.bool true)/\Below w.heap.size w w':=by
 have PA:=fun w' (hb:Below w.heap.size w w')=>ys9 w' (hw.up hb)
 have SH:=fun v w' (hb:Below w.heap.size w w') (hV:VSchema w' w'.heap.size v wokenS)=>yta v w' hV (hw.up hb)
 clear hw
 go_enter Tryz.func7,Tryz.ntmps7
 go_wp2_with (first
  | (go_at_call 18;(with_reducible refine(SH _ _ (by (repeat (first|exact zJ _ _|assumption|refine yab ?_ _|refine zL ?_|refine yac ?_ (by assumption)|refine yaa ?_ _|refine zO ?_ (by simp<;>omega) _|refine zP ?_ (by simp<;>omega) _))) ((VL.keeps yah V1.out (by (repeat (first|exact zJ _ _|assumption|refine yab ?_ _|refine zL ?_|refine yac ?_ (by assumption)|refine yaa ?_ _|refine zO ?_ (by simp<;>omega) _|refine zP ?_ (by simp<;>omega) _)))).lifts yai (by simp))).mono ?_);rintro e w2 ⟨A2',c2',rfl,hV2,hb2⟩;obtain⟨bX,oX,vs,rfl,zX,_,rX,kX⟩:=hV2.get (k:=0) rfl;obtain⟨rfl,_⟩:=kX;have r2:=rX 0 _ rfl;simp only[Nat.zero_mul,Nat.add_zero] at r2;have q1:1<=c2':=vl_cap hV2;have B2:=zh (show Below w.heap.size w w2 by (repeat (first|exact zJ _ _|assumption|refine yab ?_ _|refine zL ?_|refine yac ?_ (by assumption)|refine yaa ?_ _|refine zO ?_ (by simp<;>omega) _|refine zP ?_ (by simp<;>omega) _)));clear hb2 hV2 rX)
  | (go_at_call 17;(with_reducible refine(PA _ (by (repeat (first|exact zJ _ _|assumption|refine yab ?_ _|refine zL ?_|refine yac ?_ (by assumption)|refine yaa ?_ _|refine zO ?_ (by simp<;>omega) _|refine zP ?_ (by simp<;>omega) _)))).mono ?_);rintro e w1 ⟨A,n,c,rfl,hV,hb⟩;obtain⟨bG,oG,cG,bD,oD,cD,bV,oV,cV,b1,o1,c1,b2,o2,c2,A3,c3,A5,c5,A4,c4,hv,hk⟩:=yg1 hV;injection hv with v1 v2 v3;subst v1 v2 v3;have V1:=zh hV;have r0:=rowN4 hk 2 _ rfl;have z1:=hk.1;have b1:Below w.heap.size w w1:=(by (repeat (first|exact zJ _ _|assumption|refine yab ?_ _|refine zL ?_|refine yac ?_ (by assumption)|refine yaa ?_ _|refine zO ?_ (by simp<;>omega) _|refine zP ?_ (by simp<;>omega) _)));clear hb hV hk))
 go_ret
 exact⟨rfl,B2.out⟩
end Go.Proofs.YtajmjllhdcdkmaaGreatDoor
