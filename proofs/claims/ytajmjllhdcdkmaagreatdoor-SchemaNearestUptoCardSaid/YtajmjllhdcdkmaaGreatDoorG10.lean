import Derived.Test.YtajmjllhdcdkmaaGreatDoorZ
import Derived.Test.YtajmjllhdcdkmaaGreatDoorG9
import Derived.Test.YtajmjllhdcdkmaaGreatDoorG4
import Derived.Test.YtajmjllhdcdkmaaGreatDoorG2
import Derived.Deep.RegionHeld3
import Derived.Deep.RegionWith
set_option maxRecDepth 100000
set_option maxHeartbeats 6400000
namespace Go.Proofs.YtajmjllhdcdkmaaGreatDoor
open Go.RowKit Go.Proofs.YtajmjllhdcdkmaaGreatDoor.Dg Go.Proofs.YtajmjllhdcdkmaaGreatDoor.Q
def W3 (w:World) (a0 a1 a2 b0 b1 b2 c0 c1 c2:Value) (t:TypeId):World:=((w.alloc (.cells #[a0,a1,a2] t)).alloc (.cells #[b0,b1,b2] t)).alloc (.cells #[c0,c1,c2] t)
theorem ytw (w:World) (a0 a1 a2 b0 b1 b2 c0 c1 c2:Value) (t:TypeId):(W3 w a0 a1 a2 b0 b1 b2 c0 c1 c2 t).heap.size=w.heap.size+3:=by simp[W3]
theorem yr6 (w:World) (a0 a1 a2 b0 b1 b2 c0 c1 c2:Value) (t:TypeId):Below w.heap.size w (W3 w a0 a1 a2 b0 b1 b2 c0 c1 c2 t):=
 (((Below.refl _ w).alloc (Nat.le_refl _) _).alloc (by simp) _).alloc (by simp;omega) _
theorem W3_rs (w:World) (a0 a1 a2 b0 b1 b2 c0 c1 c2:Value) (t:TypeId):Rs (W3 w a0 a1 a2 b0 b1 b2 c0 c1 c2 t) w.heap.size a0 a1 a2 t/\Rs (W3 w a0 a1 a2 b0 b1 b2 c0 c1 c2 t) (w.heap.size+1) b0 b1 b2 t/\Rs (W3 w a0 a1 a2 b0 b1 b2 c0 c1 c2 t) (w.heap.size+2) c0 c1 c2 t:=by
 unfold Rs W3
 have s1:(w.alloc (.cells #[a0,a1,a2] t)).heap.size=w.heap.size+1:=by simp
 have s2:((w.alloc (.cells #[a0,a1,a2] t)).alloc (.cells #[b0,b1,b2] t)).heap.size=w.heap.size+2:=by simp
 refine⟨?_,?_,?_⟩
 ·rw[Deep.blk_alloc_lt _ _ _ (by rw[s2];omega),Deep.blk_alloc_lt _ _ _ (by rw[s1];omega)];exact Deep.blk_alloc_new _ _
 ·rw[Deep.blk_alloc_lt _ _ _ (by rw[s2];omega),<- s1];exact Deep.blk_alloc_new _ _
 ·rw[<- s2];exact Deep.blk_alloc_new _ _
def K3 (w w':World) (a0 a1 a2 b0 b1 b2 c0 c1 c2:Value) (t:TypeId):Prop:=Rs w' w.heap.size a0 a1 a2 t/\Rs w' (w.heap.size+1) b0 b1 b2 t/\Rs w' (w.heap.size+2) c0 c1 c2 t/\w.heap.size+3<=w'.heap.size/\Below w.heap.size w w'
theorem K3.start (w:World) (a0 a1 a2 b0 b1 b2 c0 c1 c2:Value) (t:TypeId):K3 w (W3 w a0 a1 a2 b0 b1 b2 c0 c1 c2 t) a0 a1 a2 b0 b1 b2 c0 c1 c2 t:=by
 obtain⟨h1,h2,h3⟩:=W3_rs w a0 a1 a2 b0 b1 b2 c0 c1 c2 t
 exact⟨h1,h2,h3,Nat.le_of_eq (ytw ..).symm,yr6 ..⟩
theorem K3.up {w w1 w2:World} {a0 a1 a2 b0 b1 b2 c0 c1 c2:Value} {t:TypeId} (h:K3 w w1 a0 a1 a2 b0 b1 b2 c0 c1 c2 t) (hb:Below w1.heap.size w1 w2):K3 w w2 a0 a1 a2 b0 b1 b2 c0 c1 c2 t:=by
 obtain⟨h1,h2,h3,h4,h5⟩:=h
 exact⟨h1.below hb (by omega),h2.below hb (by omega),h3.below hb (by omega),Nat.le_trans h4 hb.size,yac h5 hb⟩
theorem K3.six {w w':World} {a0 a1 a2 b0 b1 b2 c0 c1 c2:Value} {t:TypeId} (h:K3 w w' a0 a1 a2 b0 b1 b2 c0 c1 c2 t) :
  w'.cell? ⟨w.heap.size,0,none⟩=some a0/\w'.cell? ⟨w.heap.size,1,none⟩=some a1/\w'.cell? ⟨w.heap.size,2,none⟩=some a2/\w'.cell? ⟨w.heap.size+1,0,none⟩=some b0/\w'.cell? ⟨w.heap.size+1,1,none⟩=some b1/\w'.cell? ⟨w.heap.size+1,2,none⟩=some b2:=by
 obtain⟨p0,p1,p2⟩:=h.1.cells
 obtain⟨q0,q1,q2⟩:=h.2.1.cells
 exact⟨p0,p1,p2,q0,q1,q2⟩
theorem Rs.put3_other {w:World} {g h:Nat} {a b c x y z:Value} {t:TypeId} (k:Rs w g a b c t) (hne:g≠h):Rs (put3 w h x y z) g a b c t:=(yfk w h x y z hne).trans k
theorem Rs.put3_same {w:World} {g:Nat} {a b c x y z:Value} {t:TypeId} (k:Rs w g a b c t):Rs (put3 w g x y z) g x y z t:=by
 unfold Rs at *
 simp[put3,World.setCell,Array.getElem?_modify,k]
theorem K3.stored {w w':World} {a0 a1 a2 b0 b1 b2 c0 c1 c2:Value} {t:TypeId} (h:K3 w w' a0 a1 a2 b0 b1 b2 c0 c1 c2 t) (x y z:Value):K3 w (put3 w' (w.heap.size+2) x y z) a0 a1 a2 b0 b1 b2 x y z t:=by
 obtain⟨h1,h2,h3,h4,h5⟩:=h
 exact⟨h1.put3_other (by omega),h2.put3_other (by omega),h3.put3_same,by rw[ydt];exact h4,yaj h5 (by omega)⟩
theorem K3.give {w w':World} {a0 a1 a2 b0 b1 b2:Value} {t:TypeId} {q:Rat} {A A':Option Addr} {c c':Nat} (h:K3 w w' a0 a1 a2 b0 b1 b2 (.bool false) (.slice none 0 0) (.slice none 0 0) t)
  (n1:Nt .u32 w' w'.heap.size A c (top q)) (n2:Nt .u32 w' w'.heap.size A' c' q.den) :
  GiveF w q (.returned (.agg #[.bool (ngt q),.slice A (nd (top q)) c,.slice A' (nd q.den) c'])) (put3 w' (w.heap.size+2) (.bool (ngt q)) (.slice A (nd (top q)) c) (.slice A' (nd q.den) c')):=
 ⟨_,rfl,⟨A,c,A',c',rfl,n1.put3 h.2.2.1 rfl rfl rfl,n2.put3 h.2.2.1 rfl rfl rfl⟩,(h.stored _ _ _).2.2.2.2⟩
theorem yhs (v1 v2:Value) (a b:Rat) (w:World) (h1:Fr w v1 a) (h2:Fr w v2 b) (hs:sz a+sz b<=700000) :
  Calls Tryz.prog 128 #[v1,v2] w (GiveF w (a*b)):=by
 obtain⟨A1,c1,A2,c2,rfl,n1,n2⟩:=h1
 obtain⟨A3,c3,A4,c4,rfl,n3,n4⟩:=h2
 have s1:=ycg a;have s2:=yci a;have s3:=ycg b;have s4:=yci b
 have k0:=zh (K3.start w (.bool (ngt a)) (.slice A1 (nd (top a)) c1) (.slice A2 (nd a.den) c2) (.bool (ngt b)) (.slice A3 (nd (top b)) c3) (.slice A4 (nd b.den) c4) (.bool false) (.slice none 0 0) (.slice none 0 0) 178)
 obtain⟨p0,p1,p2,p3,p4,p5⟩:=k0.out.six
 have kd:=zh (k0.out.up (yab (Below.refl _ _) 1))
 have M1:=fun w' (hb:Below w.heap.size w w')=>yb5 A1 A3 c1 c3 (top a) (top b) w' (n1.up hb) (n3.up hb) (by omega) (by omega)
 have M2:=fun w' (hb:Below w.heap.size w w')=>yb5 A2 A4 c2 c4 a.den b.den w' (n2.up hb) (n4.up hb) (by omega) (by omega)
 have e1:=yay (top a) (top b)
 have e2:=yay a.den b.den
 have hd0:a.den*b.den≠0:=Nat.mul_ne_zero a.den_nz b.den_nz
 have MK:=fun w' A A' c c' h h'=>yda (ngt a != ngt b) A A' c c' (top a*top b) (a.den*b.den) hd0 w' h h' (by omega) (by omega)
 rw[<- ysp a b] at MK
 clear n1 n2 n3 n4 e1 e2 hd0 s1 s2 s3 s4 hs
 unfold W3 at p0 p1 p2 p3 p4 p5 kd
 clear k0
 generalize a*b=q at *
 generalize ngt a=x1 at *
 generalize ngt b=x2 at *
 generalize top a*top b=nn at *
 generalize a.den*b.den=dd at *
 generalize nd (top a)=l1 at *
 generalize nd (top b)=l2 at *
 generalize nd a.den=l3 at *
 generalize nd b.den=l4 at *
 go_enter Tryz.func128,Tryz.ntmps128
 go_wp2_with fail
 go_region_held3 (fun w'=>w'.cell? ⟨w.heap.size,0,none⟩=some (.bool x1)/\w'.cell? ⟨w.heap.size,1,none⟩=some (.slice A1 l1 c1)/\w'.cell? ⟨w.heap.size,2,none⟩=some (.slice A2 l3 c2)/\w'.cell? ⟨w.heap.size+1,0,none⟩=some (.bool x2)/\w'.cell? ⟨w.heap.size+1,1,none⟩=some (.slice A3 l2 c3)/\w'.cell? ⟨w.heap.size+1,2,none⟩=some (.slice A4 l4 c4))
  (first|exact(k3.out.stored _ _ _).six|exact k3.out.six|exact k2.out.six|exact k1.out.six|go_keep)
  (first
   | (go_at_call 171;refine(MK _ _ _ _ _ (N1.out.up B2.out) N2.out).mono ?_;rintro e w3 ⟨v,rfl,⟨A7,c7,A8,c8,rfl,n7,n8⟩,hb⟩;have k3:=zh (k2.out.up hb);have N7:=zh n7;have N8:=zh n8;obtain⟨r0,r1,r2⟩:=k3.out.2.2.1.cells;obtain⟨f0,f1,f2⟩:=k3.out.2.2.1.frozen;clear n7 n8 hb)
   | (go_at_call 172;refine(M2 _ k1.out.2.2.2.2).mono ?_;rintro e w2 ⟨A6,c6,rfl,hN,hb⟩;have k2:=zh (k1.out.up hb);have N2:=zh hN;have B2:=zh hb;clear hN hb)
   | (go_at_call 172;refine(M1 _ kd.out.2.2.2.2).mono ?_;rintro e w1 ⟨A5,c5,rfl,hN,hb⟩;have k1:=zh (kd.out.up hb);have N1:=zh hN;clear hN hb))
 go_wp2
 refine bodyPost_ret (v:=.agg #[.bool (ngt q),.slice A7 (nd (top q)) c7,.slice A8 (nd q.den) c8]) (by simp[results,Tryz.results128,go_sem,r0,r1,r2]) rfl ?_
 exact k3.out.give N7.out N8.out
theorem yq9 (v1 v2:Value) (a b:Rat) (w:World) (h1:Fr w v1 a) (h2:Fr w v2 b) (hb0:b≠0) (hs:sz a+sz b<=700000) :
  Calls Tryz.prog 173 #[v1,v2] w (GiveF w (a / b)):=by
 obtain⟨A1,c1,A2,c2,rfl,n1,n2⟩:=h1
 obtain⟨A3,c3,A4,c4,rfl,n3,n4⟩:=h2
 have s1:=ycg a;have s2:=yci a;have s3:=ycg b;have s4:=yci b
 have k0:=zh (K3.start w (.bool (ngt a)) (.slice A1 (nd (top a)) c1) (.slice A2 (nd a.den) c2) (.bool (ngt b)) (.slice A3 (nd (top b)) c3) (.slice A4 (nd b.den) c4) (.bool false) (.slice none 0 0) (.slice none 0 0) 178)
 obtain⟨p0,p1,p2,p3,p4,p5⟩:=k0.out.six
 have kd:=zh (k0.out.up (yab (Below.refl _ _) 1))
 have M1:=fun w' (hb:Below w.heap.size w w')=>yb5 A1 A4 c1 c4 (top a) b.den w' (n1.up hb) (n4.up hb) (by omega) (by omega)
 have M2:=fun w' (hb:Below w.heap.size w w')=>yb5 A2 A3 c2 c3 a.den (top b) w' (n2.up hb) (n3.up hb) (by omega) (by omega)
 have e1:=yay (top a) b.den
 have e2:=yay a.den (top b)
 have hd0:a.den*top b≠0:=Nat.mul_ne_zero a.den_nz (fun e=>hb0 (yf5.1 e))
 have MK:=fun w' A A' c c' h h'=>yda (ngt a != ngt b) A A' c c' (top a*b.den) (a.den*top b) hd0 w' h h' (by omega) (by omega)
 rw[<- ysk (a:=a) hb0] at MK
 clear hb0 n1 n2 n3 n4 e1 e2 hd0 s1 s2 s3 s4 hs
 unfold W3 at p0 p1 p2 p3 p4 p5 kd
 clear k0
 generalize a / b=q at *
 generalize ngt a=x1 at *
 generalize ngt b=x2 at *
 generalize top a*b.den=nn at *
 generalize a.den*top b=dd at *
 generalize nd (top a)=l1 at *
 generalize nd (top b)=l2 at *
 generalize nd a.den=l3 at *
 generalize nd b.den=l4 at *
 go_enter Tryz.func173,Tryz.ntmps173
 go_wp2_with fail
 go_region_held3 (fun w'=>w'.cell? ⟨w.heap.size,0,none⟩=some (.bool x1)/\w'.cell? ⟨w.heap.size,1,none⟩=some (.slice A1 l1 c1)/\w'.cell? ⟨w.heap.size,2,none⟩=some (.slice A2 l3 c2)/\w'.cell? ⟨w.heap.size+1,0,none⟩=some (.bool x2)/\w'.cell? ⟨w.heap.size+1,1,none⟩=some (.slice A3 l2 c3)/\w'.cell? ⟨w.heap.size+1,2,none⟩=some (.slice A4 l4 c4))
  (first|exact(k3.out.stored _ _ _).six|exact k3.out.six|exact k2.out.six|exact k1.out.six|go_keep)
  (first
   | (go_at_call 171;refine(MK _ _ _ _ _ (N1.out.up B2.out) N2.out).mono ?_;rintro e w3 ⟨v,rfl,⟨A7,c7,A8,c8,rfl,n7,n8⟩,hb⟩;have k3:=zh (k2.out.up hb);have N7:=zh n7;have N8:=zh n8;obtain⟨r0,r1,r2⟩:=k3.out.2.2.1.cells;obtain⟨f0,f1,f2⟩:=k3.out.2.2.1.frozen;clear n7 n8 hb)
   | (go_at_call 172;refine(M2 _ k1.out.2.2.2.2).mono ?_;rintro e w2 ⟨A6,c6,rfl,hN,hb⟩;have k2:=zh (k1.out.up hb);have N2:=zh hN;have B2:=zh hb;clear hN hb)
   | (go_at_call 172;refine(M1 _ kd.out.2.2.2.2).mono ?_;rintro e w1 ⟨A5,c5,rfl,hN,hb⟩;have k1:=zh (kd.out.up hb);have N1:=zh hN;clear hN hb))
 go_wp2
 refine bodyPost_ret (v:=.agg #[.bool (ngt q),.slice A7 (nd (top q)) c7,.slice A8 (nd q.den) c8]) (by simp[results,Tryz.results173,go_sem,r0,r1,r2]) rfl ?_
 exact k3.out.give N7.out N8.out
theorem yoz (v1 v2:Value) (a b:Rat) (w:World) (h1:Fr w v1 a) (h2:Fr w v2 b) (hs:sz a+sz b<=700000) (hsg:ngt a=ngt b) :
  Calls Tryz.prog 227 #[v1,v2] w (GiveF w (a+b)):=by
 obtain⟨A1,c1,A2,c2,rfl,n1,n2⟩:=h1
 obtain⟨A3,c3,A4,c4,rfl,n3,n4⟩:=h2
 have s1:=ycg a;have s2:=yci a;have s3:=ycg b;have s4:=yci b
 have M1:=fun w' (hb:Below w.heap.size w w')=>yb5 A1 A4 c1 c4 (top a) b.den w' (n1.up hb) (n4.up hb) (by omega) (by omega)
 have M2:=fun w' (hb:Below w.heap.size w w')=>yb5 A3 A2 c3 c2 (top b) a.den w' (n3.up hb) (n2.up hb) (by omega) (by omega)
 have M3:=fun w' (hb:Below w.heap.size w w')=>yb5 A2 A4 c2 c4 a.den b.den w' (n2.up hb) (n4.up hb) (by omega) (by omega)
 have e1:=yay (top a) b.den
 have e2:=yay (top b) a.den
 have e3:=yay a.den b.den
 have e4:=ygw (top a*b.den) (top b*a.den)
 have e5:=ybi (Nat.sub_le (top a*b.den) (top b*a.den))
 have e6:=ybi (Nat.sub_le (top b*a.den) (top a*b.den))
 have hd0:a.den*b.den≠0:=Nat.mul_ne_zero a.den_nz b.den_nz
 have MK:=fun w' A A' c c' h h'=>yda (ngt a) A A' c c' (top a*b.den+top b*a.den) (a.den*b.den) hd0 w' h h' (by omega) (by omega)
 rw[<- Q.add_same hsg] at MK
 have OP:=fun w' A A' c c' h h'=>(ysy A A' c c' (top a*b.den) (top b*a.den) w' h h' (by omega) (by omega)).mono fun _ _ h=>GiveO.n h
 rw[<- hsg]
 have k0:=zh (K3.start w (.bool (ngt a)) (.slice A1 (nd (top a)) c1) (.slice A2 (nd a.den) c2) (.bool (ngt a)) (.slice A3 (nd (top b)) c3) (.slice A4 (nd b.den) c4) (.bool false) (.slice none 0 0) (.slice none 0 0) 178)
 obtain⟨p0,p1,p2,p3,p4,p5⟩:=k0.out.six
 have kd:=zh (k0.out.up (yab (Below.refl _ _) 1))
 clear n1 n2 n3 n4 e1 e2 e3 e4 e5 e6 hd0 s1 s2 s3 s4 hs hsg
 unfold W3 at p0 p1 p2 p3 p4 p5 kd
 clear k0
 generalize a+b=q at *
 generalize ngt a=x1 at *
 generalize top a*b.den+top b*a.den=op at *
 generalize top a*b.den=m1 at *
 generalize top b*a.den=m2 at *
 generalize a.den*b.den=dd at *
 generalize nd (top a)=l1 at *
 generalize nd (top b)=l2 at *
 generalize nd a.den=l3 at *
 generalize nd b.den=l4 at *
 go_enter Tryz.func227,Tryz.ntmps227
 go_wp2_with fail
 go_region_held3 (fun w'=>w'.cell? ⟨w.heap.size,0,none⟩=some (.bool x1)/\w'.cell? ⟨w.heap.size,1,none⟩=some (.slice A1 l1 c1)/\w'.cell? ⟨w.heap.size,2,none⟩=some (.slice A2 l3 c2)/\w'.cell? ⟨w.heap.size+1,0,none⟩=some (.bool x1)/\w'.cell? ⟨w.heap.size+1,1,none⟩=some (.slice A3 l2 c3)/\w'.cell? ⟨w.heap.size+1,2,none⟩=some (.slice A4 l4 c4))
  (first|exact k2.out.six|exact k1.out.six|go_keep)
  (first
   | (go_at_call 172;refine(M2 _ k1.out.2.2.2.2).mono ?_;rintro e w2 ⟨A6,c6,rfl,hN,hb⟩;have k2:=zh (k1.out.up hb);have N2:=zh hN;have B2:=zh hb;clear hN hb)
   | (go_at_call 172;refine(M1 _ kd.out.2.2.2.2).mono ?_;rintro e w1 ⟨A5,c5,rfl,hN,hb⟩;have k1:=zh (kd.out.up hb);have N1:=zh hN;clear hN hb))
 obtain⟨q0,q1,q2,q3,q4,q5⟩:=k2.out.six
 have N1':=zh (N1.out.up B2.out)
 clear N1 k1 kd p0 p1 p2 p3 p4 p5 B2
 go_wp2_with (first
  | (go_at_call 172;refine(M3 _ k2.out.2.2.2.2).mono ?_;rintro e w3 ⟨A7,c7,rfl,hN,hb⟩;have k3:=zh (k2.out.up hb);have N3:=zh hN;have N1'':=zh (N1'.out.up hb);have N2':=zh (N2.out.up hb);obtain⟨t0,t1,t2,t3,t4,t5⟩:=k3.out.six;clear hN hb))
 have kd:=zh (k3.out.up (yab (Below.refl _ _) 1))
 have na:=zh (N1''.out.drewN 1)
 have nb:=zh (N2'.out.drewN 1)
 have nc:=zh (N3.out.drewN 1)
 go_region_held3 (fun w'=>w'.cell? ⟨w.heap.size,0,none⟩=some (.bool x1)/\w'.cell? ⟨w.heap.size,1,none⟩=some (.slice A1 l1 c1)/\w'.cell? ⟨w.heap.size,2,none⟩=some (.slice A2 l3 c2)/\w'.cell? ⟨w.heap.size+1,0,none⟩=some (.bool x1)/\w'.cell? ⟨w.heap.size+1,1,none⟩=some (.slice A3 l2 c3)/\w'.cell? ⟨w.heap.size+1,2,none⟩=some (.slice A4 l4 c4))
  (first|exact(k6.out.stored _ _ _).six|exact k6.out.six|exact k5.out.six|go_keep)
  (first
   | (go_at_call 171;refine(MK _ _ _ _ _ NO.out (nc.out.up BO.out)).mono ?_;rintro e w6 ⟨v,rfl,⟨A9,c9,A10,c10,rfl,n9,n10⟩,hb⟩;have k6:=zh (k5.out.up hb);have N9:=zh n9;have N10:=zh n10;obtain⟨r0,r1,r2⟩:=k6.out.2.2.1.cells;obtain⟨f0,f1,f2⟩:=k6.out.2.2.1.frozen;clear n9 n10 hb)
   | (go_at_call 250;refine(OP _ _ _ _ _ na.out nb.out).mono ?_;rintro e w5 ⟨A8,c8,rfl,hN,hb⟩;have k5:=zh (kd.out.up hb);have NO:=zh hN;have BO:=zh hb;clear hN hb))
 go_wp2
 refine bodyPost_ret (v:=.agg #[.bool (ngt q),.slice A9 (nd (top q)) c9,.slice A10 (nd q.den) c10]) (by simp[results,Tryz.results227,go_sem,r0,r1,r2]) rfl ?_
 exact k6.out.give N9.out N10.out
theorem yss (v1 v2:Value) (a b:Rat) (w:World) (h1:Fr w v1 a) (h2:Fr w v2 b) (hs:sz a+sz b<=700000) (hsg:ngt a≠ngt b) (hl:top b*a.den<=top a*b.den) :
  Calls Tryz.prog 227 #[v1,v2] w (GiveF w (a+b)):=by
 obtain⟨A1,c1,A2,c2,rfl,n1,n2⟩:=h1
 obtain⟨A3,c3,A4,c4,rfl,n3,n4⟩:=h2
 have s1:=ycg a;have s2:=yci a;have s3:=ycg b;have s4:=yci b
 have M1:=fun w' (hb:Below w.heap.size w w')=>yb5 A1 A4 c1 c4 (top a) b.den w' (n1.up hb) (n4.up hb) (by omega) (by omega)
 have M2:=fun w' (hb:Below w.heap.size w w')=>yb5 A3 A2 c3 c2 (top b) a.den w' (n3.up hb) (n2.up hb) (by omega) (by omega)
 have M3:=fun w' (hb:Below w.heap.size w w')=>yb5 A2 A4 c2 c4 a.den b.den w' (n2.up hb) (n4.up hb) (by omega) (by omega)
 have e1:=yay (top a) b.den
 have e2:=yay (top b) a.den
 have e3:=yay a.den b.den
 have e4:=ygw (top a*b.den) (top b*a.den)
 have e5:=ybi (Nat.sub_le (top a*b.den) (top b*a.den))
 have e6:=ybi (Nat.sub_le (top b*a.den) (top a*b.den))
 have hd0:a.den*b.den≠0:=Nat.mul_ne_zero a.den_nz b.den_nz
 have MK:=fun w' A A' c c' h h'=>yda (ngt a) A A' c c' (top a*b.den - top b*a.den) (a.den*b.den) hd0 w' h h' (by omega) (by omega)
 rw[<- Q.add_ge hsg hl] at MK
 have OP:=fun w' A A' c c' h h'=>ylf A A' c c' (top a*b.den) (top b*a.den) w' h h' hl (by omega)
 have CP:=fun w' A A' c c' h h'=>yex A A' c c' (top a*b.den) (top b*a.den) w' h h' (by omega)
 obtain⟨z,hz⟩:∃ z,cmpN (top a*b.den) (top b*a.den)=z:=⟨_,rfl⟩
 have hz0:0<=z:=by have:=ydl (a:=top a*b.den) (b:=top b*a.den);rw[hz] at this;omega
 rw[hz] at CP
 have hsg':(ngt a==ngt b)=false:=by rw[beq_eq_false_iff_ne];exact hsg
 have k0:=zh (K3.start w (.bool (ngt a)) (.slice A1 (nd (top a)) c1) (.slice A2 (nd a.den) c2) (.bool (ngt b)) (.slice A3 (nd (top b)) c3) (.slice A4 (nd b.den) c4) (.bool false) (.slice none 0 0) (.slice none 0 0) 178)
 obtain⟨p0,p1,p2,p3,p4,p5⟩:=k0.out.six
 have kd:=zh (k0.out.up (yab (Below.refl _ _) 1))
 clear n1 n2 n3 n4 e1 e2 e3 e4 e5 e6 hd0 s1 s2 s3 s4 hs hsg hl hz
 unfold W3 at p0 p1 p2 p3 p4 p5 kd
 clear k0
 generalize a+b=q at *
 generalize ngt a=x1 at *
 generalize ngt b=x2 at *
 generalize top a*b.den - top b*a.den=op at *
 generalize top a*b.den=m1 at *
 generalize top b*a.den=m2 at *
 generalize a.den*b.den=dd at *
 generalize nd (top a)=l1 at *
 generalize nd (top b)=l2 at *
 generalize nd a.den=l3 at *
 generalize nd b.den=l4 at *
 go_enter Tryz.func227,Tryz.ntmps227
 go_wp2_with fail
 go_region_held3 (fun w'=>w'.cell? ⟨w.heap.size,0,none⟩=some (.bool x1)/\w'.cell? ⟨w.heap.size,1,none⟩=some (.slice A1 l1 c1)/\w'.cell? ⟨w.heap.size,2,none⟩=some (.slice A2 l3 c2)/\w'.cell? ⟨w.heap.size+1,0,none⟩=some (.bool x2)/\w'.cell? ⟨w.heap.size+1,1,none⟩=some (.slice A3 l2 c3)/\w'.cell? ⟨w.heap.size+1,2,none⟩=some (.slice A4 l4 c4))
  (first|exact k2.out.six|exact k1.out.six|go_keep)
  (first
   | (go_at_call 172;refine(M2 _ k1.out.2.2.2.2).mono ?_;rintro e w2 ⟨A6,c6,rfl,hN,hb⟩;have k2:=zh (k1.out.up hb);have N2:=zh hN;have B2:=zh hb;clear hN hb)
   | (go_at_call 172;refine(M1 _ kd.out.2.2.2.2).mono ?_;rintro e w1 ⟨A5,c5,rfl,hN,hb⟩;have k1:=zh (kd.out.up hb);have N1:=zh hN;clear hN hb))
 obtain⟨q0,q1,q2,q3,q4,q5⟩:=k2.out.six
 have N1':=zh (N1.out.up B2.out)
 clear N1 k1 kd p0 p1 p2 p3 p4 p5 B2
 go_wp2_with (first
  | (go_at_call 237;refine(CP _ _ _ _ _ N1''.out N2'.out).mono ?_;rintro e w4 ⟨rfl,qq,rfl⟩;have k4:=zh (k3.out.up (yab (Below.refl _ _) qq));obtain⟨t0,t1,t2,t3,t4,t5⟩:=k4.out.six;have N1c:=zh (N1''.out.drewN qq);have N2c:=zh (N2'.out.drewN qq);have N3c:=zh (N3.out.drewN qq))
  | (go_at_call 172;refine(M3 _ k2.out.2.2.2.2).mono ?_;rintro e w3 ⟨A7,c7,rfl,hN,hb⟩;have k3:=zh (k2.out.up hb);have N3:=zh hN;have N1'':=zh (N1'.out.up hb);have N2':=zh (N2.out.up hb);obtain⟨t0,t1,t2,t3,t4,t5⟩:=k3.out.six;clear hN hb))
 have kd:=zh (k4.out.up (yab (Below.refl _ _) 1))
 have na:=zh (N1c.out.drewN 1)
 have nb:=zh (N2c.out.drewN 1)
 have nc:=zh (N3c.out.drewN 1)
 go_region_held3 (fun w'=>w'.cell? ⟨w.heap.size,0,none⟩=some (.bool x1)/\w'.cell? ⟨w.heap.size,1,none⟩=some (.slice A1 l1 c1)/\w'.cell? ⟨w.heap.size,2,none⟩=some (.slice A2 l3 c2)/\w'.cell? ⟨w.heap.size+1,0,none⟩=some (.bool x2)/\w'.cell? ⟨w.heap.size+1,1,none⟩=some (.slice A3 l2 c3)/\w'.cell? ⟨w.heap.size+1,2,none⟩=some (.slice A4 l4 c4))
  (first|exact(k6.out.stored _ _ _).six|exact k6.out.six|exact k5.out.six|go_keep)
  (first
   | (go_at_call 171;refine(MK _ _ _ _ _ NO.out (nc.out.up BO.out)).mono ?_;rintro e w6 ⟨v,rfl,⟨A9,c9,A10,c10,rfl,n9,n10⟩,hb⟩;have k6:=zh (k5.out.up hb);have N9:=zh n9;have N10:=zh n10;obtain⟨r0,r1,r2⟩:=k6.out.2.2.1.cells;obtain⟨f0,f1,f2⟩:=k6.out.2.2.1.frozen;clear n9 n10 hb)
   | (go_at_call 251;refine(OP _ _ _ _ _ na.out nb.out).mono ?_;rintro e w5 ⟨A8,c8,rfl,hN,hb⟩;have k5:=zh (kd.out.up hb);have NO:=zh hN;have BO:=zh hb;clear hN hb))
 go_wp2
 refine bodyPost_ret (v:=.agg #[.bool (ngt q),.slice A9 (nd (top q)) c9,.slice A10 (nd q.den) c10]) (by simp[results,Tryz.results227,go_sem,r0,r1,r2]) rfl ?_
 exact k6.out.give N9.out N10.out
theorem ytx (v1 v2:Value) (a b:Rat) (w:World) (h1:Fr w v1 a) (h2:Fr w v2 b) (hs:sz a+sz b<=700000) (hsg:ngt a≠ngt b) (hl:top a*b.den<top b*a.den) :
  Calls Tryz.prog 227 #[v1,v2] w (GiveF w (a+b)):=by
 obtain⟨A1,c1,A2,c2,rfl,n1,n2⟩:=h1
 obtain⟨A3,c3,A4,c4,rfl,n3,n4⟩:=h2
 have s1:=ycg a;have s2:=yci a;have s3:=ycg b;have s4:=yci b
 have M1:=fun w' (hb:Below w.heap.size w w')=>yb5 A1 A4 c1 c4 (top a) b.den w' (n1.up hb) (n4.up hb) (by omega) (by omega)
 have M2:=fun w' (hb:Below w.heap.size w w')=>yb5 A3 A2 c3 c2 (top b) a.den w' (n3.up hb) (n2.up hb) (by omega) (by omega)
 have M3:=fun w' (hb:Below w.heap.size w w')=>yb5 A2 A4 c2 c4 a.den b.den w' (n2.up hb) (n4.up hb) (by omega) (by omega)
 have e1:=yay (top a) b.den
 have e2:=yay (top b) a.den
 have e3:=yay a.den b.den
 have e4:=ygw (top a*b.den) (top b*a.den)
 have e5:=ybi (Nat.sub_le (top a*b.den) (top b*a.den))
 have e6:=ybi (Nat.sub_le (top b*a.den) (top a*b.den))
 have hd0:a.den*b.den≠0:=Nat.mul_ne_zero a.den_nz b.den_nz
 have MK:=fun w' A A' c c' h h'=>yda (ngt b) A A' c c' (top b*a.den - top a*b.den) (a.den*b.den) hd0 w' h h' (by omega) (by omega)
 rw[<- Q.add_lt hsg (Nat.le_of_lt hl)] at MK
 have OP:=fun w' A A' c c' h h'=>ylf A A' c c' (top b*a.den) (top a*b.den) w' h h' (Nat.le_of_lt hl) (by omega)
 have CP:=fun w' A A' c c' h h'=>yex A A' c c' (top a*b.den) (top b*a.den) w' h h' (by omega)
 obtain⟨z,hz⟩:∃ z,cmpN (top a*b.den) (top b*a.den)=z:=⟨_,rfl⟩
 have hz0:¬0<=z:=by have:=ydl (a:=top a*b.den) (b:=top b*a.den);rw[hz] at this;omega
 rw[hz] at CP
 have hsg':(ngt a==ngt b)=false:=by rw[beq_eq_false_iff_ne];exact hsg
 have k0:=zh (K3.start w (.bool (ngt a)) (.slice A1 (nd (top a)) c1) (.slice A2 (nd a.den) c2) (.bool (ngt b)) (.slice A3 (nd (top b)) c3) (.slice A4 (nd b.den) c4) (.bool false) (.slice none 0 0) (.slice none 0 0) 178)
 obtain⟨p0,p1,p2,p3,p4,p5⟩:=k0.out.six
 have kd:=zh (k0.out.up (yab (Below.refl _ _) 1))
 clear n1 n2 n3 n4 e1 e2 e3 e4 e5 e6 hd0 s1 s2 s3 s4 hs hsg hl hz
 unfold W3 at p0 p1 p2 p3 p4 p5 kd
 clear k0
 generalize a+b=q at *
 generalize ngt a=x1 at *
 generalize ngt b=x2 at *
 generalize top b*a.den - top a*b.den=op at *
 generalize top a*b.den=m1 at *
 generalize top b*a.den=m2 at *
 generalize a.den*b.den=dd at *
 generalize nd (top a)=l1 at *
 generalize nd (top b)=l2 at *
 generalize nd a.den=l3 at *
 generalize nd b.den=l4 at *
 go_enter Tryz.func227,Tryz.ntmps227
 go_wp2_with fail
 go_region_held3 (fun w'=>w'.cell? ⟨w.heap.size,0,none⟩=some (.bool x1)/\w'.cell? ⟨w.heap.size,1,none⟩=some (.slice A1 l1 c1)/\w'.cell? ⟨w.heap.size,2,none⟩=some (.slice A2 l3 c2)/\w'.cell? ⟨w.heap.size+1,0,none⟩=some (.bool x2)/\w'.cell? ⟨w.heap.size+1,1,none⟩=some (.slice A3 l2 c3)/\w'.cell? ⟨w.heap.size+1,2,none⟩=some (.slice A4 l4 c4))
  (first|exact k2.out.six|exact k1.out.six|go_keep)
  (first
   | (go_at_call 172;refine(M2 _ k1.out.2.2.2.2).mono ?_;rintro e w2 ⟨A6,c6,rfl,hN,hb⟩;have k2:=zh (k1.out.up hb);have N2:=zh hN;have B2:=zh hb;clear hN hb)
   | (go_at_call 172;refine(M1 _ kd.out.2.2.2.2).mono ?_;rintro e w1 ⟨A5,c5,rfl,hN,hb⟩;have k1:=zh (kd.out.up hb);have N1:=zh hN;clear hN hb))
 obtain⟨q0,q1,q2,q3,q4,q5⟩:=k2.out.six
 have N1':=zh (N1.out.up B2.out)
 clear N1 k1 kd p0 p1 p2 p3 p4 p5 B2
 go_wp2_with (first
  | (go_at_call 237;refine(CP _ _ _ _ _ N1''.out N2'.out).mono ?_;rintro e w4 ⟨rfl,qq,rfl⟩;have k4:=zh (k3.out.up (yab (Below.refl _ _) qq));obtain⟨t0,t1,t2,t3,t4,t5⟩:=k4.out.six;have N1c:=zh (N1''.out.drewN qq);have N2c:=zh (N2'.out.drewN qq);have N3c:=zh (N3.out.drewN qq))
  | (go_at_call 172;refine(M3 _ k2.out.2.2.2.2).mono ?_;rintro e w3 ⟨A7,c7,rfl,hN,hb⟩;have k3:=zh (k2.out.up hb);have N3:=zh hN;have N1'':=zh (N1'.out.up hb);have N2':=zh (N2.out.up hb);obtain⟨t0,t1,t2,t3,t4,t5⟩:=k3.out.six;clear hN hb))
 have kd:=zh (k4.out.up (yab (Below.refl _ _) 1))
 have na:=zh (N2c.out.drewN 1)
 have nb:=zh (N1c.out.drewN 1)
 have nc:=zh (N3c.out.drewN 1)
 go_region_held3 (fun w'=>w'.cell? ⟨w.heap.size,0,none⟩=some (.bool x1)/\w'.cell? ⟨w.heap.size,1,none⟩=some (.slice A1 l1 c1)/\w'.cell? ⟨w.heap.size,2,none⟩=some (.slice A2 l3 c2)/\w'.cell? ⟨w.heap.size+1,0,none⟩=some (.bool x2)/\w'.cell? ⟨w.heap.size+1,1,none⟩=some (.slice A3 l2 c3)/\w'.cell? ⟨w.heap.size+1,2,none⟩=some (.slice A4 l4 c4))
  (first|exact(k6.out.stored _ _ _).six|exact k6.out.six|exact k5.out.six|go_keep)
  (first
   | (go_at_call 171;refine(MK _ _ _ _ _ NO.out (nc.out.up BO.out)).mono ?_;rintro e w6 ⟨v,rfl,⟨A9,c9,A10,c10,rfl,n9,n10⟩,hb⟩;have k6:=zh (k5.out.up hb);have N9:=zh n9;have N10:=zh n10;obtain⟨r0,r1,r2⟩:=k6.out.2.2.1.cells;obtain⟨f0,f1,f2⟩:=k6.out.2.2.1.frozen;clear n9 n10 hb)
   | (go_at_call 251;refine(OP _ _ _ _ _ na.out nb.out).mono ?_;rintro e w5 ⟨A8,c8,rfl,hN,hb⟩;have k5:=zh (kd.out.up hb);have NO:=zh hN;have BO:=zh hb;clear hN hb))
 go_wp2
 refine bodyPost_ret (v:=.agg #[.bool (ngt q),.slice A9 (nd (top q)) c9,.slice A10 (nd q.den) c10]) (by simp[results,Tryz.results227,go_sem,r0,r1,r2]) rfl ?_
 exact k6.out.give N9.out N10.out
theorem yqq (v1 v2:Value) (a b:Rat) (w:World) (h1:Fr w v1 a) (h2:Fr w v2 b) (hs:sz a+sz b<=700000) :
  Calls Tryz.prog 227 #[v1,v2] w (GiveF w (a+b)):=by
 by_cases hsg:ngt a=ngt b
 ·exact yoz v1 v2 a b w h1 h2 hs hsg
 ·rcases Nat.lt_or_ge (top a*b.den) (top b*a.den) with hl|hl
  ·exact ytx v1 v2 a b w h1 h2 hs hsg hl
  ·exact yss v1 v2 a b w h1 h2 hs hsg hl
theorem ynj (v1:Value) (a:Rat) (w:World) (h1:Fr w v1 a) :
  Calls Tryz.prog 228 #[v1] w (GiveF w (-a)):=by
 obtain⟨A1,c1,A2,c2,rfl,n1,n2⟩:=h1
 have Z:=fun w=>ye3 A1 c1 (top a) w
 obtain⟨zb,hzb⟩:∃ zb,decide (top a=0)=zb:=⟨_,rfl⟩
 rw[hzb] at Z
 have HN:=zh (show ngt (-a)=(!ngt a&&!zb) by rw[ytv,<- hzb];simp)
 have HT:=zh (yo6 a)
 have HD:=zh (Rat.neg_den a)
 have H1:=zh n1
 have H2:=zh n2
 have hz:ngt a=true->zb=false:=fun h=>by rw[<- hzb];exact decide_eq_false (yk9 h)
 clear n1 n2 hzb
 generalize -a=q at *
 generalize top a=t at *
 generalize a.den=d at *
 generalize ngt a=x at *
 generalize hl1:nd t=l1 at *
 generalize hl2:nd d=l2 at *
 have L1:=zh hl1
 have L2:=zh hl2
 clear hl1 hl2
 go_enter Tryz.func228,Tryz.ntmps228
 have fin:∀ (B:Bool),ngt q=B->∀ w',Below w.heap.size w w'->Fr w' (.agg #[.bool B,.slice A1 l1 c1,.slice A2 l2 c2]) q:=by
  intro B hB w' hb
  rw[<- L1.out,<- L2.out]
  exact Fr.of_parts hB HT.out HD.out (H1.out.up hb) (H2.out.up hb)
 have FIN:=zh fin
 clear fin
 cases x
 ·cases zb
  ·clear hz
   go_wp2_with (go_at_call 207;(with_reducible refine(Z _).mono ?_);rintro e w1 ⟨rfl,rfl⟩)
   exact bodyPost_ret (v:=.agg #[.bool true,.slice A1 l1 c1,.slice A2 l2 c2]) (by simp[results,Tryz.results228,go_sem]) rfl ⟨_,rfl,FIN.out true HN.out _ (by (repeat (first|exact zJ _ _|assumption|refine yab ?_ _|refine zL ?_|refine yac ?_ (by assumption)|refine yaa ?_ _))),(by (repeat (first|exact zJ _ _|assumption|refine yab ?_ _|refine zL ?_|refine yac ?_ (by assumption)|refine yaa ?_ _)))⟩
  ·clear hz
   go_wp2_with (go_at_call 207;(with_reducible refine(Z _).mono ?_);rintro e w1 ⟨rfl,rfl⟩)
   exact bodyPost_ret (v:=.agg #[.bool false,.slice A1 l1 c1,.slice A2 l2 c2]) (by simp[results,Tryz.results228,go_sem]) rfl ⟨_,rfl,FIN.out false HN.out _ (by (repeat (first|exact zJ _ _|assumption|refine yab ?_ _|refine zL ?_|refine yac ?_ (by assumption)|refine yaa ?_ _))),(by (repeat (first|exact zJ _ _|assumption|refine yab ?_ _|refine zL ?_|refine yac ?_ (by assumption)|refine yaa ?_ _)))⟩
 ·have:=hz rfl
  subst this
  clear hz
  go_wp2_with (go_at_call 207;(with_reducible refine(Z _).mono ?_);rintro e w1 ⟨rfl,rfl⟩)
  exact bodyPost_ret (v:=.agg #[.bool false,.slice A1 l1 c1,.slice A2 l2 c2]) (by simp[results,Tryz.results228,go_sem]) rfl ⟨_,rfl,FIN.out false HN.out _ (by (repeat (first|exact zJ _ _|assumption|refine yab ?_ _|refine zL ?_|refine yac ?_ (by assumption)|refine yaa ?_ _))),(by (repeat (first|exact zJ _ _|assumption|refine yab ?_ _|refine zL ?_|refine yac ?_ (by assumption)|refine yaa ?_ _)))⟩
theorem yra (v1 v2:Value) (a b:Rat) (w:World) (h1:Fr w v1 a) (h2:Fr w v2 b) (hs:sz a+sz b<=700000) :
  Calls Tryz.prog 195 #[v1,v2] w (GiveF w (a - b)):=by
 have H1:=zh h1
 have H2:=zh h2
 obtain⟨A1,c1,A2,c2,rfl,n1,n2⟩:=h1
 obtain⟨A3,c3,A4,c4,rfl,n3,n4⟩:=h2
 have k0:=zh (K3.start w (.bool (ngt a)) (.slice A1 (nd (top a)) c1) (.slice A2 (nd a.den) c2) (.bool (ngt b)) (.slice A3 (nd (top b)) c3) (.slice A4 (nd b.den) c4) (.bool false) (.slice none 0 0) (.slice none 0 0) 178)
 obtain⟨p0,p1,p2,p3,p4,p5⟩:=k0.out.six
 have kd:=zh (k0.out.up (yab (Below.refl _ _) 1))
 have MI:=fun w' (hb:Below w.heap.size w w')=>ynj _ b w' (H2.out.up hb)
 have AD:=fun w' v (hb:Below w.heap.size w w') (h:Fr w' v (-b))=>yqq _ v a (-b) w' (H1.out.up hb) h (by rw[sz_neg];exact hs)
 rw[<- Rat.sub_eq_add_neg] at AD
 clear n1 n2 n3 n4 hs H1 H2
 unfold W3 at p0 p1 p2 p3 p4 p5 kd
 clear k0
 generalize a - b=q at *
 generalize ngt a=x1 at *
 generalize ngt b=x2 at *
 generalize nd (top a)=l1 at *
 generalize nd (top b)=l2 at *
 generalize nd a.den=l3 at *
 generalize nd b.den=l4 at *
 go_enter Tryz.func195,Tryz.ntmps195
 go_wp2_with fail
 go_region_held3 (fun w'=>w'.cell? ⟨w.heap.size,0,none⟩=some (.bool x1)/\w'.cell? ⟨w.heap.size,1,none⟩=some (.slice A1 l1 c1)/\w'.cell? ⟨w.heap.size,2,none⟩=some (.slice A2 l3 c2)/\w'.cell? ⟨w.heap.size+1,0,none⟩=some (.bool x2)/\w'.cell? ⟨w.heap.size+1,1,none⟩=some (.slice A3 l2 c3)/\w'.cell? ⟨w.heap.size+1,2,none⟩=some (.slice A4 l4 c4))
  (first|exact(k2.out.stored _ _ _).six|exact k2.out.six|exact k1.out.six|go_keep)
  (first
   | (go_at_call 227;refine(AD _ _ k1.out.2.2.2.2 F1.out).mono ?_;rintro e w2 ⟨v,rfl,⟨A7,c7,A8,c8,rfl,n7,n8⟩,hb⟩;have k2:=zh (k1.out.up hb);have N7:=zh n7;have N8:=zh n8;obtain⟨r0,r1,r2⟩:=k2.out.2.2.1.cells;obtain⟨f0,f1,f2⟩:=k2.out.2.2.1.frozen;clear n7 n8 hb)
   | (go_at_call 228;refine(MI _ kd.out.2.2.2.2).mono ?_;rintro e w1 ⟨v,rfl,hF,hb⟩;have k1:=zh (kd.out.up hb);have F1:=zh hF;clear hF hb))
 go_wp2
 refine bodyPost_ret (v:=.agg #[.bool (ngt q),.slice A7 (nd (top q)) c7,.slice A8 (nd q.den) c8]) (by simp[results,Tryz.results195,go_sem,r0,r1,r2]) rfl ?_
 exact k2.out.give N7.out N8.out
theorem yi5 (v1:Value) (a:Rat) (w:World) (h1:Fr w v1 a) :
  Calls Tryz.prog 175 #[v1] w fun e w'=>e=.returned (.int .i64 (sign a))/\Below w.heap.size w w':=by
 obtain⟨A1,c1,A2,c2,rfl,n1,n2⟩:=h1
 have Z:=fun w=>ye3 A1 c1 (top a) w
 clear n1 n2
 by_cases h0:top a=0
 ·rw[decide_eq_true h0] at Z
  have HS:=zh (show sign a=0 by unfold sign;rw[if_pos h0])
  generalize nd (top a)=l1 at *
  generalize nd a.den=l2 at *
  generalize ngt a=x at *
  clear h0
  go_enter Tryz.func175,Tryz.ntmps175
  go_wp2_with (go_at_call 207;(with_reducible refine(Z _).mono ?_);rintro e w1 ⟨rfl,rfl⟩)
  go_ret
  exact⟨by rw[HS.out];rfl,by (repeat (first|exact zJ _ _|assumption|refine yab ?_ _|refine zL ?_|refine yac ?_ (by assumption)|refine yaa ?_ _))⟩
 ·rw[decide_eq_false h0] at Z
  have HS:=zh (show sign a=if ngt a=true then -1 else 1 by unfold sign;rw[if_neg h0])
  generalize nd (top a)=l1 at *
  generalize nd a.den=l2 at *
  clear h0
  cases hx:ngt a
  all_goals
   rw[hx] at HS
   clear hx
   go_enter Tryz.func175,Tryz.ntmps175
   go_wp2_with (go_at_call 207;(with_reducible refine(Z _).mono ?_);rintro e w1 ⟨rfl,rfl⟩)
   go_ret
   exact⟨by rw[HS.out];rfl,by (repeat (first|exact zJ _ _|assumption|refine yab ?_ _|refine zL ?_|refine yac ?_ (by assumption)|refine yaa ?_ _))⟩
theorem yqt (v1 v2:Value) (a b:Rat) (w:World) (h1:Fr w v1 a) (h2:Fr w v2 b) (hs:sz a+sz b<=700000) :
  Calls Tryz.prog 162 #[v1,v2] w fun e w'=>e=.returned (.int .i64 (sign (a - b)))/\Below w.heap.size w w':=by
 have SB:=fun w' (hb:Below w.heap.size w w')=>yra v1 v2 a b w' (h1.up hb) (h2.up hb) hs
 obtain⟨A1,c1,A2,c2,rfl,n1,n2⟩:=h1
 obtain⟨A3,c3,A4,c4,rfl,n3,n4⟩:=h2
 have b2:=zh (show Below w.heap.size w ((w.alloc (.cells #[.bool (ngt a),.slice A1 (nd (top a)) c1,.slice A2 (nd a.den) c2] 178)).alloc (.cells #[.bool (ngt b),.slice A3 (nd (top b)) c3,.slice A4 (nd b.den) c4] 178)) by (repeat (first|exact zJ _ _|assumption|refine yab ?_ _|refine zL ?_|refine yac ?_ (by assumption)|refine yaa ?_ _)))
 clear n1 n2 n3 n4 hs
 generalize a - b=q at *
 generalize ngt a=x1 at *
 generalize ngt b=x2 at *
 generalize nd (top a)=l1 at *
 generalize nd (top b)=l2 at *
 generalize nd a.den=l3 at *
 generalize nd b.den=l4 at *
 go_enter Tryz.func162,Tryz.ntmps162
 go_wp2_with (first
  | (go_at_call 175;(refine(yi5 _ q _ F1.out).mono ?_;rintro e w2 ⟨rfl,hb⟩;have B2:=zh hb;clear hb))
  | (go_at_call 195;refine(SB _ b2.out).mono ?_;rintro e w1 ⟨v,rfl,hF,hb⟩;have F1:=zh hF;have B1:=zh hb;clear hF hb))
 go_ret
 exact⟨rfl,yac (b2.out.trans (B1.out.mono b2.out.size)) B2.out⟩
theorem yoy (n:Nat):ngt ((n:Nat):Rat)=false/\top ((n:Nat):Rat)=n/\((n:Nat):Rat).den=1:=by
 refine⟨?_,?_,rfl⟩
 ·unfold ngt;rw[Rat.num_natCast];exact decide_eq_false (by omega)
 ·unfold top;rw[Rat.num_natCast];rfl
theorem yls (n:Nat) (hn:n<=1000000) (w:World):Calls Tryz.prog 126 #[.int .i64 (n:Int)] w (GiveF w (n:Rat)):=by
 have S1:=fun w'=>ymr n (by omega) w'
 obtain⟨p1,p2,p3⟩:=yoy n
 have R0:=zh (show Rs (w.alloc (.cells #[.bool false,.slice none 0 0,.slice none 0 0] 178)) w.heap.size (.bool false) (.slice none 0 0) (.slice none 0 0) 178 from Deep.blk_alloc_new w _)
 have hgs:w.heap.size<(w.alloc (.cells #[.bool false,.slice none 0 0,.slice none 0 0] 178)).heap.size:=by simp
 have HGS:=zh hgs
 have P1:=zh p1
 have P2:=zh p2
 have P3:=zh p3
 have B0:=zh ((Below.refl w.heap.size w).alloc (Nat.le_refl _) (.cells #[.bool false,.slice none 0 0,.slice none 0 0] 178))
 have nb:(n:Int)<=1000000:=by omega
 have e0:decide ((n:Int)<0)=false:=decide_eq_false (by omega)
 clear p1 p2 p3 hgs
 go_enter Tryz.func126,Tryz.ntmps126
 go_wp2_with (go_at_call 168;refine(S1 _).mono ?_;rintro e w1 ⟨A,c,rfl,hN,hb⟩;have N1:=zh hN;have B1:=zh hb;have RG:=zh ((R0.out.below hb HGS.out).below ((Below.refl w1.heap.size w1).alloc (Nat.le_refl _) (.cells #[.int .u32 1] 226)) (Nat.lt_of_lt_of_le HGS.out hb.size));obtain⟨r0,r1,r2⟩:=RG.out.cells;obtain⟨f0,f1,f2⟩:=RG.out.frozen;clear hN hb)
 have B2:=B0.out.trans ((B1.out.alloc B1.out.size (.cells #[.int .u32 1] 226)).mono B0.out.size)
 have M1:=(N1.out.up ((Below.refl w1.heap.size w1).alloc (Nat.le_refl _) (.cells #[.int .u32 1] 226))).put3 RG.out rfl rfl rfl (a:=.bool false) (b:=.slice A (nd n) c) (d:=.slice (some ⟨w1.heap.size,0,none⟩) 1 1)
 have M2:=(Nt.one w1 226).put3 RG.out rfl rfl rfl (a:=.bool false) (b:=.slice A (nd n) c) (d:=.slice (some ⟨w1.heap.size,0,none⟩) 1 1)
 refine bodyPost_ret (v:=.agg #[.bool false,.slice A (nd n) c,.slice (some ⟨w1.heap.size,0,none⟩) 1 1]) (by simp[results,Tryz.results126,go_sem,r0,r1,r2]) rfl ⟨_,rfl,?_,yaj B2 (Nat.le_refl _)⟩
 have:=Fr.of_parts P1.out P2.out P3.out M1 M2
 rw[ye8] at this
 exact this
def K2 (w w':World) (a0 a1 a2 c0 c1 c2:Value) (t:TypeId):Prop:=Rs w' w.heap.size a0 a1 a2 t/\Rs w' (w.heap.size+1) c0 c1 c2 t/\w.heap.size+2<=w'.heap.size/\Below w.heap.size w w'
theorem K2.start (w:World) (a0 a1 a2 c0 c1 c2:Value) (t:TypeId):K2 w ((w.alloc (.cells #[a0,a1,a2] t)).alloc (.cells #[c0,c1,c2] t)) a0 a1 a2 c0 c1 c2 t:=by
 have s1:(w.alloc (.cells #[a0,a1,a2] t)).heap.size=w.heap.size+1:=by simp
 refine⟨?_,?_,by simp,by (repeat (first|exact zJ _ _|assumption|refine yab ?_ _|refine zL ?_|refine yac ?_ (by assumption)|refine yaa ?_ _))⟩
 ·unfold Rs;rw[Deep.blk_alloc_lt _ _ _ (by rw[s1];omega)];exact Deep.blk_alloc_new _ _
 ·unfold Rs;rw[<- s1];exact Deep.blk_alloc_new _ _
theorem K2.up {w w1 w2:World} {a0 a1 a2 c0 c1 c2:Value} {t:TypeId} (h:K2 w w1 a0 a1 a2 c0 c1 c2 t) (hb:Below w1.heap.size w1 w2):K2 w w2 a0 a1 a2 c0 c1 c2 t:=by
 obtain⟨h1,h2,h4,h5⟩:=h
 exact⟨h1.below hb (by omega),h2.below hb (by omega),Nat.le_trans h4 hb.size,yac h5 hb⟩
theorem K2.give {w w':World} {a0 a1 a2:Value} {t:TypeId} {q:Rat} {b:Bool} {n d:Nat} {A A':Option Addr} {c c':Nat} (h:K2 w w' a0 a1 a2 (.bool false) (.slice none 0 0) (.slice none 0 0) t)
  (e1:ngt q=b) (e2:top q=n) (e3:q.den=d) (n1:Nt .u32 w' w'.heap.size A c n) (n2:Nt .u32 w' w'.heap.size A' c' d) :
  GiveF w q (.returned (.agg #[.bool b,.slice A (nd n) c,.slice A' (nd d) c'])) (put3 w' (w.heap.size+1) (.bool b) (.slice A (nd n) c) (.slice A' (nd d) c')):=
 ⟨_,rfl,Fr.of_parts e1 e2 e3 (n1.put3 h.2.1 rfl rfl rfl) (n2.put3 h.2.1 rfl rfl rfl),yaj h.2.2.2 (by omega)⟩
open Go.RowKit Go.Proofs.YtajmjllhdcdkmaaGreatDoor.Dg Go.Proofs.YtajmjllhdcdkmaaGreatDoor.Q Go.Proofs.YtajmjllhdcdkmaaGreatDoor.Num
theorem yib {a b:ByteArray} {c d:Bool} (h:a=b) (h':c=d):Ending.returned (.tuple #[.string a,.bool c])=.returned (.tuple #[.string b,.bool d]):=by rw[h,h']
theorem yjy (a:Nat):(Lib.decDigits a).length<=9*nd a+1:=by
 refine(ydd (by omega)).2 (Nat.lt_of_lt_of_le (yba a) ?_)
 rw[yi8]
 exact Nat.pow_le_pow_right (by decide) (by omega)
theorem ya1 (w:World) (a b c:Value) (t:TypeId):Rs (w.alloc (.cells #[a,b,c] t)) w.heap.size a b c t/\Below w.heap.size w (w.alloc (.cells #[a,b,c] t))/\w.heap.size<(w.alloc (.cells #[a,b,c] t)).heap.size:=
 ⟨Deep.blk_alloc_new w _,(Below.refl _ w).alloc (Nat.le_refl _) _,by simp⟩
def K1 (w w':World) (a b c:Value) (t:TypeId):Prop:=Rs w' w.heap.size a b c t/\Below w.heap.size w w'/\w.heap.size<w'.heap.size
theorem K1.up {w w1 w2:World} {a b c:Value} {t:TypeId} (h:K1 w w1 a b c t) (hb:Below w1.heap.size w1 w2):K1 w w2 a b c t:=⟨h.1.below hb h.2.2,yac h.2.1 hb,Nat.lt_of_lt_of_le h.2.2 hb.size⟩
theorem yo7 (v1:Value) (a:Rat) (w:World) (hw:Wf w) (h1:Fr w v1 a) (hs:sz a<=700000) :
  Calls Tryz.prog 211 #[v1] w fun e w'=>e=.returned (.string ⟨(txt a).toArray⟩)/\Below w.heap.size w w':=by
 obtain⟨A1,c1,A2,c2,rfl,n1,n2⟩:=h1
 have s1:=ycg a
 have s2:=yci a
 have S1:=fun w' (hb:Below w.heap.size w w')=>yeg A1 c1 (top a) w' (hw.up hb) (n1.up hb) (by omega)
 have S2:=fun w' (hb:Below w.heap.size w w')=>yeg A2 c2 a.den w' (hw.up hb) (n2.up hb) (by omega)
 have O2:=fun w' (hb:Below w.heap.size w w')=>ydb A2 c2 a.den w' (n2.up hb)
 have k0:=zh (show K1 w (w.alloc (.cells #[.bool (ngt a),.slice A1 (nd (top a)) c1,.slice A2 (nd a.den) c2] 178)) _ _ _ _ from ya1 w _ _ _ _)
 obtain⟨D1,hD1⟩:∃ D1:ByteArray,D1=⟨(Lib.decDigits (top a)).toArray⟩:=⟨_,rfl⟩
 obtain⟨D2,hD2⟩:∃ D2:ByteArray,D2=⟨(Lib.decDigits a.den).toArray⟩:=⟨_,rfl⟩
 rw[<- hD1] at S1
 rw[<- hD2] at S2
 have b1:bl D1=Lib.decDigits (top a):=by rw[hD1];rfl
 have b2:bl D2=Lib.decDigits a.den:=by rw[hD2];rfl
 have z1:D1.size<=7000000:=by rw[<- yag,b1];have:=yjy (top a);omega
 have z2:D2.size<=7000000:=by rw[<- yag,b2];have:=yjy a.den;omega
 have HT:=zh (show txt a=(if ngt a=true then [45] else [])++(bl D1++(if a.den=1 then [] else 47::bl D2)) by rw[b1,b2];rfl)
 clear n1 n2 hw s1 s2 hs hD1 hD2 b1 b2
 generalize txt a=T at *
 by_cases hd:a.den=1
 ·rw[decide_eq_true hd] at O2
  rw[if_pos hd] at HT
  generalize a.den=d at *
  generalize nd (top a)=l1 at *
  clear hd
  cases hx:ngt a
  all_goals
   rw[hx] at k0 HT
   clear hx
   go_enter Tryz.func211,Tryz.ntmps211
   go_wp2_with (first
    | (go_at_call 206;(refine(O2 _ k1.out.2.1).mono ?_;rintro e w2 ⟨rfl,rfl⟩))
    | (go_at_call 210;refine(S1 _ k0.out.2.1).mono ?_;rintro e w1 ⟨rfl,hb⟩;have k1:=zh (k0.out.up hb);obtain⟨q0,q1,q2⟩:=k1.out.1.cells;clear hb))
   go_ret
   refine⟨yn1 (ye1 ?_),k1.out.2.1⟩
   show bl _=T
   rw[HT.out]
   try simp only[ydq]
   simp[bl]
 ·rw[decide_eq_false hd] at O2
  rw[if_neg hd] at HT
  generalize a.den=d at *
  generalize nd (top a)=l1 at *
  clear hd
  cases hx:ngt a
  all_goals
   rw[hx] at k0 HT
   clear hx
   go_enter Tryz.func211,Tryz.ntmps211
   go_wp2_with (first
    | (go_at_call 210;(refine(S2 _ k1.out.2.1).mono ?_;rintro e w3 ⟨rfl,hb⟩;have k2:=zh (k1.out.up hb);clear hb))
    | (go_at_call 206;(refine(O2 _ k1.out.2.1).mono ?_;rintro e w2 ⟨rfl,rfl⟩))
    | (go_at_call 210;refine(S1 _ k0.out.2.1).mono ?_;rintro e w1 ⟨rfl,hb⟩;have k1:=zh (k0.out.up hb);obtain⟨q0,q1,q2⟩:=k1.out.1.cells;clear hb))
   go_ret
   refine⟨yn1 (ye1 ?_),k2.out.2.1⟩
   show bl _=T
   rw[HT.out]
   try simp only[ydq]
   simp[bl]
theorem yjt (v1:Value) (a:Rat) (w:World) (hw:Wf w) (h1:Fr w v1 a) (hs:sz a<=700000) :
  Calls Tryz.prog 174 #[v1] w fun e w'=>e=.returned (.tuple #[.string ⟨(put a).toArray⟩,.bool (short a)])/\Below w.heap.size w w':=by
 have LG:=fun w' (hb:Below w.heap.size w w')=>yo7 v1 a w' (hw.up hb) (h1.up hb) hs
 obtain⟨A1,c1,A2,c2,rfl,n1,n2⟩:=h1
 have s1:=ycg a
 have s2:=yci a
 have S1:=fun w' (hb:Below w.heap.size w w')=>yeg A1 c1 (top a) w' (hw.up hb) (n1.up hb) (by omega)
 have S2:=fun w' (hb:Below w.heap.size w w')=>yeg A2 c2 a.den w' (hw.up hb) (n2.up hb) (by omega)
 have k0:=zh (show K1 w (w.alloc (.cells #[.bool (ngt a),.slice A1 (nd (top a)) c1,.slice A2 (nd a.den) c2] 178)) _ _ _ _ from ya1 w _ _ _ _)
 obtain⟨D1,hD1⟩:∃ D1:ByteArray,D1=⟨(Lib.decDigits (top a)).toArray⟩:=⟨_,rfl⟩
 obtain⟨D2,hD2⟩:∃ D2:ByteArray,D2=⟨(Lib.decDigits a.den).toArray⟩:=⟨_,rfl⟩
 rw[<- hD1] at S1
 rw[<- hD2] at S2
 have b1:D1.size=(Lib.decDigits (top a)).length:=by rw[<- yag,hD1];rfl
 have b2:D2.size=(Lib.decDigits a.den).length:=by rw[<- yag,hD2];rfl
 have hsh:short a=(decide (D1.size<=40)&&decide (D2.size<=40)):=by rw[b1,b2];rfl
 clear n1 n2 hw s1 s2 hs hD1 hD2 b1 b2
 generalize nd (top a)=l1 at *
 generalize nd a.den=l2 at *
 generalize ngt a=x at *
 by_cases c1':D1.size<=40
 ·by_cases c2':D2.size<=40
  ·rw[decide_eq_true c1',decide_eq_true c2'] at hsh
   have HP:=zh (show put a=txt a by unfold put;rw[hsh];rfl)
   have HS:=zh hsh
   have i1:¬(40:Int)<(D1.size:Int):=by omega
   have i2:¬(40:Int)<(D2.size:Int):=by omega
   clear hsh c1' c2'
   go_enter Tryz.func174,Tryz.ntmps174
   go_wp2_with (first
    | (go_at_call 211;(refine(LG _ k2.out.2.1).mono ?_;rintro e w3 ⟨rfl,hb⟩;have k3:=zh (k2.out.up hb);clear hb))
    | (go_at_call 210;(refine(S2 _ k1.out.2.1).mono ?_;rintro e w3 ⟨rfl,hb⟩;have k2:=zh (k1.out.up hb);obtain⟨t0,t1,t2⟩:=k2.out.1.cells;clear hb))
    | (go_at_call 210;refine(S1 _ k0.out.2.1).mono ?_;rintro e w1 ⟨rfl,hb⟩;have k1:=zh (k0.out.up hb);obtain⟨q0,q1,q2⟩:=k1.out.1.cells;clear hb))
   go_ret2
   exact⟨yib (by rw[HP.out]) HS.out.symm,k3.out.2.1⟩
  ·rw[decide_eq_true c1',decide_eq_false c2'] at hsh
   have HP:=zh (show put a=[] by unfold put;rw[hsh];rfl)
   have HS:=zh hsh
   have i1:¬(40:Int)<(D1.size:Int):=by omega
   have i2:(40:Int)<(D2.size:Int):=by omega
   clear hsh c1' c2'
   go_enter Tryz.func174,Tryz.ntmps174
   go_wp2_with (first
    | (go_at_call 210;(refine(S2 _ k1.out.2.1).mono ?_;rintro e w3 ⟨rfl,hb⟩;have k2:=zh (k1.out.up hb);obtain⟨t0,t1,t2⟩:=k2.out.1.cells;clear hb))
    | (go_at_call 210;refine(S1 _ k0.out.2.1).mono ?_;rintro e w1 ⟨rfl,hb⟩;have k1:=zh (k0.out.up hb);obtain⟨q0,q1,q2⟩:=k1.out.1.cells;clear hb))
   go_ret2
   exact⟨yib (by rw[HP.out]) HS.out.symm,k2.out.2.1⟩
 ·rw[decide_eq_false c1',Bool.false_and] at hsh
  have HP:=zh (show put a=[] by unfold put;rw[hsh];rfl)
  have HS:=zh hsh
  have i1:(40:Int)<(D1.size:Int):=by omega
  clear hsh c1'
  go_enter Tryz.func174,Tryz.ntmps174
  go_wp2_with (first
   | (go_at_call 210;refine(S1 _ k0.out.2.1).mono ?_;rintro e w1 ⟨rfl,hb⟩;have k1:=zh (k0.out.up hb);obtain⟨q0,q1,q2⟩:=k1.out.1.cells;clear hb))
  go_ret2
  exact⟨yib (by rw[HP.out]) HS.out.symm,k1.out.2.1⟩
theorem yhn (v1:Value) (a:Rat) (w:World) (hw:Wf w) (h1:Fr w v1 a) (hs:sz a<=700000) :
  Calls Tryz.prog 130 #[v1] w fun e w'=>e=.returned (.string ⟨(put a).toArray⟩)/\Below w.heap.size w w':=by
 have TX:=fun w' (hb:Below w.heap.size w w')=>yjt v1 a w' (hw.up hb) (h1.up hb) hs
 obtain⟨A1,c1,A2,c2,rfl,n1,n2⟩:=h1
 have k0:=zh (show K1 w (w.alloc (.cells #[.bool (ngt a),.slice A1 (nd (top a)) c1,.slice A2 (nd a.den) c2] 178)) _ _ _ _ from ya1 w _ _ _ _)
 clear n1 n2 hw hs
 generalize put a=P at *
 generalize short a=sh at *
 generalize nd (top a)=l1 at *
 generalize nd a.den=l2 at *
 generalize ngt a=x at *
 go_enter Tryz.func130,Tryz.ntmps130
 go_wp2_with (go_at_call 174;refine(TX _ k0.out.2.1).mono ?_;rintro e w1 ⟨rfl,hb⟩;have k1:=zh (k0.out.up hb);clear hb)
 go_ret
 exact⟨rfl,k1.out.2.1⟩
open Go.RowKit Dg Q Num Str
theorem bl_at (S:ByteArray) (k:Nat) (h:k<S.size):(bl S)[k]?=some S[k]:=by
 unfold bl
 rw[Array.getElem?_toList,Array.getElem?_eq_getElem h]
 rfl
theorem yo0 (S:ByteArray) (k:Nat) (h:k<S.size):(bl S).take (k+1)=(bl S).take k++[S[k]]:=by
 have:=bl_at S k h
 rw[List.take_add_one,this]
 rfl
theorem yml (c:UInt8):isD c=true ↔ ¬((c.toNat:Nat):Int)<48/\¬(57:Int)<((c.toNat:Nat):Int):=by
 unfold isD
 rw[decide_eq_true_iff]
 omega
theorem eqS (S:ByteArray) (l:List UInt8):(S.toList==l)=decide (bl S=l):=by
 rw[Lib.toList_data,Bool.eq_iff_iff,beq_iff_eq,decide_eq_true_iff]
 exact Iff.rfl
theorem yd5 (S:ByteArray) (hs:S.size<=9223372036854775807) (w:World) :
  Calls Tryz.prog 203 #[.string S] w fun e w'=>e=.returned (.bool (canon (bl S)))/\w=w':=by
 have sb:(S.size:Int)<=9223372036854775807:=by omega
 go_enter Tryz.func203,Tryz.ntmps203
 go_wp2
 go_loopw [6] (fun i wr=>∃ k:Nat,k<=S.size/\i=.int .i64 (k:Int)/\w=wr/\Hid (allD ((bl S).take k)=true)) (fun i _=>(S.size - intOf i).toNat)
 case atStart=>exact⟨0,Nat.zero_le _,rfl,rfl,rfl⟩
 case round=>
  obtain⟨k,hk,rfl,rfl,hA⟩:=hrel
  by_cases hk0:k=S.size
  ·subst hk0
   have hall:allD (bl S)=true:=by have:=hA.out;rwa [List.take_of_length_le (by rw[yag];exact Nat.le_refl _)] at this
   by_cases he:bl S=[]
   ·have h1:S.toList.isEmpty=true:=by rw[emptyS];exact decide_eq_true he
    have HC:=zh (show canon (bl S)=false by rw[he];rfl)
    clear hA hall he
    go_wp2
    go_ret
    exact⟨by rw[HC.out];rfl,rfl⟩
   ·have h1:S.toList.isEmpty=false:=by rw[emptyS];exact decide_eq_false he
    have h0:0<S.size:=by rw[<- yag];exact List.length_pos_iff.2 he
    have hh:(bl S).head?=some S[0]:=by rw[List.head?_eq_getElem?];exact bl_at S 0 h0
    have HC:=zh (show canon (bl S)=(decide (S[0].toNat≠48)||decide (bl S=[48])) by
     unfold canon
     rw[hall,hh]
     have e1:(!(bl S).isEmpty)=true:=by cases hb:bl S with
      | nil=>exact absurd hb he
      | cons x l=>rfl
     rw[e1,Bool.true_and,Bool.true_and]
     congr 1
     ·rw[Bool.eq_iff_iff,bne_iff_ne,decide_eq_true_iff]
      exact⟨fun h e=>h (by rw[UInt8.toNat_inj.1 (show S[0].toNat=(48:UInt8).toNat from e)]),fun h e=>h (by injection e with e;rw[e];rfl)⟩
     ·rw[Bool.eq_iff_iff,beq_iff_eq,decide_eq_true_iff])
    clear hA hall hh he
    by_cases hz:S[0].toNat=48
    ·have hz':((S[0].toNat:Nat):Int)=48:=by omega
     have HC':=zh (show canon (bl S)=decide (bl S=[48]) by rw[HC.out];simp[hz])
     clear hz HC
     go_wp2
     go_ret
     exact⟨by rw[HC'.out,<- eqS];rfl,rfl⟩
    ·have hz':¬((S[0].toNat:Nat):Int)=48:=by omega
     have HC':=zh (show canon (bl S)=true by rw[HC.out,decide_eq_true hz];rfl)
     clear hz HC
     go_wp2
     go_ret
     exact⟨by rw[HC'.out];rfl,rfl⟩
  ·have hlt:k<S.size:=by omega
   have hi:(k:Int)<(S.size:Int):=by omega
   by_cases hd:isD S[k]=true
   ·obtain⟨d1,d2⟩:=(yml _).1 hd
    have HA:=zh (show allD ((bl S).take (k+1))=true by rw[yo0 S k hlt,yat,hA.out];simp[allD,hd])
    clear hd hA hk0
    go_wp2
    go_roundw
    case rel=>exact⟨k+1,by omega,by go_num,by first|rfl|trivial,HA⟩
    case measure=>simp only[intOf];omega
   ·have HC:=zh (show canon (bl S)=false by
     cases hc:canon (bl S)
     ·rfl
     ·exact absurd (yc3 (ydf hc).1 (List.mem_of_getElem? (bl_at S k hlt))) hd)
    have hd':((S[k].toNat:Nat):Int)<48\/(57:Int)<((S[k].toNat:Nat):Int):=by
     have:=yml S[k]
     by_cases h1:((S[k].toNat:Nat):Int)<48
     ·exact .inl h1
     ·by_cases h2:(57:Int)<((S[k].toNat:Nat):Int)
      ·exact .inr h2
      ·exact absurd (this.2 ⟨h1,h2⟩) hd
    clear hd hA hk0
    rcases hd' with h1|h1
    ·go_wp2
     go_ret
     exact⟨by rw[HC.out];rfl,rfl⟩
    ·have h2:¬((S[k].toNat:Nat):Int)<48:=by omega
     go_wp2
     go_ret
     exact⟨by rw[HC.out];rfl,rfl⟩
theorem DigQ.num {S:ByteArray} {w w':World} {e:Ending} (h:DigQ S w e w') (hd:allD (bl S)=true):∃ A c,e=.returned (.slice A (nd (val (bl S))) c)/\Nt .u32 w' w'.heap.size A c (val (bl S))/\Below w.heap.size w w':=by
 obtain⟨A,n,c,o,he,hF,hb,_,hv⟩:=h
 obtain⟨rfl,ho⟩:=hv hd
 exact⟨A,c,he,hF.congr ho,hb⟩
theorem ybj (l:List UInt8) (h:allD l=true):nd (val l)<=l.length:=by
 refine nd_le (Nat.lt_of_lt_of_le (yft l h) ?_)
 rw[yi8]
 exact Nat.pow_le_pow_right (by decide) (by omega)
def ReadQ (o:Option Rat) (w:World) (e:Ending) (w':World):Prop:=
 ∃ b A n c A' n' c',e=.returned (.tuple #[.agg #[.bool b,.slice A n c,.slice A' n' c'],.bool o.isSome])/\Below w.heap.size w w'/\∀ q,o=some q->Fr w' (.agg #[.bool b,.slice A n c,.slice A' n' c']) q
def refuses (c1 neg z f c2 q0 q1:Bool):Bool:=!c1||(neg&&z)||(f&&(!c2||q0||q1||z))
theorem yk7 (S:ByteArray) (_hs:S.size<=100) (w:World) (hno:lng? (bl S)=none)
  (P Q:ByteArray) (f:Bool) (R:ByteArray)
  (CP:∀ w,Calls Tryz.prog 34 #[.string S,.string ⟨#[45]⟩] w fun e w'=>e=.returned (.tuple #[.string R,.bool (isNeg (bl S))])/\w=w')
  (CT:∀ w,Calls Tryz.prog 93 #[.string R,.string ⟨#[47]⟩] w fun e w'=>e=.returned (.tuple #[.string P,.string Q,.bool f])/\∃ n,w'=w.drewN n)
  (hP:P.size<=100) (hQ:Q.size<=100)
  (hr:refuses (canon (bl P)) (isNeg (bl S)) (P.toList==[48]) f (canon (bl Q)) (Q.toList==[48]) (Q.toList==[49])=true) :
  Calls Tryz.prog 170 #[.string S] w (ReadQ (lng? (bl S)) w):=by
 have PP:=fun w=>yd5 P (by omega) w
 have PQ:=fun w=>yd5 Q (by omega) w
 rw[hno]
 generalize isNeg (bl S)=neg at *
 generalize canon (bl P)=k1 at *
 generalize canon (bl Q)=k2 at *
 generalize hz:(P.toList==[48])=z at *
 generalize hq0:(Q.toList==[48])=q0 at *
 generalize hq1:(Q.toList==[49])=q1 at *
 clear hP hQ hno _hs
 go_enter Tryz.func170,Tryz.ntmps170
 obtain⟨R0,_,_⟩:=ya1 w (.bool false) (.slice none 0 0) (.slice none 0 0) 178
 obtain⟨r0,r1,r2⟩:=R0.cells
 clear R0
 have no:∀ {p:Prop},refuses true neg z f k2 q0 q1=true->(neg&&z)=false->(f&&(!k2||q0||q1||z))=false->p:=by
  intro p h h1 h2
  unfold refuses at h
  rw[h1,h2] at h
  cases h
 cases k1
 ·clear hr no
  go_wp2_with (first
   | (go_at_call 203;((with_reducible refine(PQ _).mono ?_);rintro e w' ⟨rfl,rfl⟩))
   | (go_at_call 203;((with_reducible refine(PP _).mono ?_);rintro e w' ⟨rfl,rfl⟩))
   | (go_at_call 93;refine(CT _).mono ?_;rintro e w' ⟨rfl,n,rfl⟩)
   | (go_at_call 34;refine(CP _).mono ?_;rintro e w' ⟨rfl,rfl⟩))
  exact bodyPost_ret (v:=.tuple #[.agg #[.bool false,.slice none 0 0,.slice none 0 0],.bool false]) (by simp[results,Tryz.results170,go_sem,r0,r1,r2]) rfl ⟨false,none,0,0,none,0,0,rfl,yaj (yab ((Below.refl _ w).alloc (Nat.le_refl _) _) _) (Nat.le_refl _),fun q h=>by cases h⟩
 ·cases neg
  ·cases f
   ·exact no hr rfl rfl
   ·cases k2
    ·clear hr no
     go_wp2_with (first
      | (go_at_call 203;((with_reducible refine(PQ _).mono ?_);rintro e w' ⟨rfl,rfl⟩))
      | (go_at_call 203;((with_reducible refine(PP _).mono ?_);rintro e w' ⟨rfl,rfl⟩))
      | (go_at_call 93;refine(CT _).mono ?_;rintro e w' ⟨rfl,n,rfl⟩)
      | (go_at_call 34;refine(CP _).mono ?_;rintro e w' ⟨rfl,rfl⟩))
     exact bodyPost_ret (v:=.tuple #[.agg #[.bool false,.slice none 0 0,.slice none 0 0],.bool false]) (by simp[results,Tryz.results170,go_sem,r0,r1,r2]) rfl ⟨false,none,0,0,none,0,0,rfl,yaj (yab ((Below.refl _ w).alloc (Nat.le_refl _) _) _) (Nat.le_refl _),fun q h=>by cases h⟩
    ·cases q0
     ·cases q1
      ·cases z
       ·exact no hr rfl rfl
       ·clear hr no
        go_wp2_with (first
         | (go_at_call 203;((with_reducible refine(PQ _).mono ?_);rintro e w' ⟨rfl,rfl⟩))
         | (go_at_call 203;((with_reducible refine(PP _).mono ?_);rintro e w' ⟨rfl,rfl⟩))
         | (go_at_call 93;refine(CT _).mono ?_;rintro e w' ⟨rfl,n,rfl⟩)
         | (go_at_call 34;refine(CP _).mono ?_;rintro e w' ⟨rfl,rfl⟩))
        exact bodyPost_ret (v:=.tuple #[.agg #[.bool false,.slice none 0 0,.slice none 0 0],.bool false]) (by simp[results,Tryz.results170,go_sem,r0,r1,r2]) rfl ⟨false,none,0,0,none,0,0,rfl,yaj (yab ((Below.refl _ w).alloc (Nat.le_refl _) _) _) (Nat.le_refl _),fun q h=>by cases h⟩
      ·clear hr no
       go_wp2_with (first
        | (go_at_call 203;((with_reducible refine(PQ _).mono ?_);rintro e w' ⟨rfl,rfl⟩))
        | (go_at_call 203;((with_reducible refine(PP _).mono ?_);rintro e w' ⟨rfl,rfl⟩))
        | (go_at_call 93;refine(CT _).mono ?_;rintro e w' ⟨rfl,n,rfl⟩)
        | (go_at_call 34;refine(CP _).mono ?_;rintro e w' ⟨rfl,rfl⟩))
       exact bodyPost_ret (v:=.tuple #[.agg #[.bool false,.slice none 0 0,.slice none 0 0],.bool false]) (by simp[results,Tryz.results170,go_sem,r0,r1,r2]) rfl ⟨false,none,0,0,none,0,0,rfl,yaj (yab ((Below.refl _ w).alloc (Nat.le_refl _) _) _) (Nat.le_refl _),fun q h=>by cases h⟩
     ·clear hr no
      go_wp2_with (first
       | (go_at_call 203;((with_reducible refine(PQ _).mono ?_);rintro e w' ⟨rfl,rfl⟩))
       | (go_at_call 203;((with_reducible refine(PP _).mono ?_);rintro e w' ⟨rfl,rfl⟩))
       | (go_at_call 93;refine(CT _).mono ?_;rintro e w' ⟨rfl,n,rfl⟩)
       | (go_at_call 34;refine(CP _).mono ?_;rintro e w' ⟨rfl,rfl⟩))
      exact bodyPost_ret (v:=.tuple #[.agg #[.bool false,.slice none 0 0,.slice none 0 0],.bool false]) (by simp[results,Tryz.results170,go_sem,r0,r1,r2]) rfl ⟨false,none,0,0,none,0,0,rfl,yaj (yab ((Below.refl _ w).alloc (Nat.le_refl _) _) _) (Nat.le_refl _),fun q h=>by cases h⟩
  ·cases z
   ·cases f
    ·exact no hr rfl rfl
    ·cases k2
     ·clear hr no
      go_wp2_with (first
       | (go_at_call 203;((with_reducible refine(PQ _).mono ?_);rintro e w' ⟨rfl,rfl⟩))
       | (go_at_call 203;((with_reducible refine(PP _).mono ?_);rintro e w' ⟨rfl,rfl⟩))
       | (go_at_call 93;refine(CT _).mono ?_;rintro e w' ⟨rfl,n,rfl⟩)
       | (go_at_call 34;refine(CP _).mono ?_;rintro e w' ⟨rfl,rfl⟩))
      exact bodyPost_ret (v:=.tuple #[.agg #[.bool false,.slice none 0 0,.slice none 0 0],.bool false]) (by simp[results,Tryz.results170,go_sem,r0,r1,r2]) rfl ⟨false,none,0,0,none,0,0,rfl,yaj (yab ((Below.refl _ w).alloc (Nat.le_refl _) _) _) (Nat.le_refl _),fun q h=>by cases h⟩
     ·cases q0
      ·cases q1
       ·exact no hr rfl rfl
       ·clear hr no
        go_wp2_with (first
         | (go_at_call 203;((with_reducible refine(PQ _).mono ?_);rintro e w' ⟨rfl,rfl⟩))
         | (go_at_call 203;((with_reducible refine(PP _).mono ?_);rintro e w' ⟨rfl,rfl⟩))
         | (go_at_call 93;refine(CT _).mono ?_;rintro e w' ⟨rfl,n,rfl⟩)
         | (go_at_call 34;refine(CP _).mono ?_;rintro e w' ⟨rfl,rfl⟩))
        exact bodyPost_ret (v:=.tuple #[.agg #[.bool false,.slice none 0 0,.slice none 0 0],.bool false]) (by simp[results,Tryz.results170,go_sem,r0,r1,r2]) rfl ⟨false,none,0,0,none,0,0,rfl,yaj (yab ((Below.refl _ w).alloc (Nat.le_refl _) _) _) (Nat.le_refl _),fun q h=>by cases h⟩
      ·clear hr no
       go_wp2_with (first
        | (go_at_call 203;((with_reducible refine(PQ _).mono ?_);rintro e w' ⟨rfl,rfl⟩))
        | (go_at_call 203;((with_reducible refine(PP _).mono ?_);rintro e w' ⟨rfl,rfl⟩))
        | (go_at_call 93;refine(CT _).mono ?_;rintro e w' ⟨rfl,n,rfl⟩)
        | (go_at_call 34;refine(CP _).mono ?_;rintro e w' ⟨rfl,rfl⟩))
       exact bodyPost_ret (v:=.tuple #[.agg #[.bool false,.slice none 0 0,.slice none 0 0],.bool false]) (by simp[results,Tryz.results170,go_sem,r0,r1,r2]) rfl ⟨false,none,0,0,none,0,0,rfl,yaj (yab ((Below.refl _ w).alloc (Nat.le_refl _) _) _) (Nat.le_refl _),fun q h=>by cases h⟩
   ·clear hr no
    go_wp2_with (first
     | (go_at_call 203;((with_reducible refine(PQ _).mono ?_);rintro e w' ⟨rfl,rfl⟩))
     | (go_at_call 203;((with_reducible refine(PP _).mono ?_);rintro e w' ⟨rfl,rfl⟩))
     | (go_at_call 93;refine(CT _).mono ?_;rintro e w' ⟨rfl,n,rfl⟩)
     | (go_at_call 34;refine(CP _).mono ?_;rintro e w' ⟨rfl,rfl⟩))
    exact bodyPost_ret (v:=.tuple #[.agg #[.bool false,.slice none 0 0,.slice none 0 0],.bool false]) (by simp[results,Tryz.results170,go_sem,r0,r1,r2]) rfl ⟨false,none,0,0,none,0,0,rfl,yaj (yab ((Below.refl _ w).alloc (Nat.le_refl _) _) _) (Nat.le_refl _),fun q h=>by cases h⟩
def K0 (w w':World):Prop:=Rs w' w.heap.size (.bool false) (.slice none 0 0) (.slice none 0 0) 178/\Below w.heap.size w w'/\w.heap.size<w'.heap.size
theorem K0.start (w:World):K0 w (w.alloc (.cells #[.bool false,.slice none 0 0,.slice none 0 0] 178)):=ya1 w _ _ _ _
theorem K0.up {w w1 w2:World} (h:K0 w w1) (hb:Below w1.heap.size w1 w2):K0 w w2:=⟨h.1.below hb h.2.2,yac h.2.1 hb,Nat.lt_of_lt_of_le h.2.2 hb.size⟩
theorem K0.drewN {w w1:World} (h:K0 w w1) (n:Nat):K0 w (w1.drewN n):=h.up (yab (Below.refl _ _) n)
theorem K0.alloc {w w1:World} (h:K0 w w1) (o:Obj):K0 w (w1.alloc o):=h.up ((Below.refl _ _).alloc (Nat.le_refl _) _)
theorem yjg (S:ByteArray) (w:World) (hw:Wf w) (P Q R:ByteArray)
  (CP:∀ w,Calls Tryz.prog 34 #[.string S,.string ⟨#[45]⟩] w fun e w'=>e=.returned (.tuple #[.string R,.bool (isNeg (bl S))])/\w=w')
  (CT:∀ w,Calls Tryz.prog 93 #[.string R,.string ⟨#[47]⟩] w fun e w'=>e=.returned (.tuple #[.string P,.string Q,.bool false])/\∃ n,w'=w.drewN n)
  (hP:P.size<=100) (hPb:bl P=body (bl S)) (hc:canon (bl P)=true) (hn:isNeg (bl S)=true->bl P≠[48]) :
  Calls Tryz.prog 170 #[.string S] w (ReadQ (lng? (bl S)) w):=by
 have PP:=fun w=>yd5 P (by omega) w
 have DG:=fun w' (hb:Below w.heap.size w w')=>ya4 P (by omega) w' (hw.up hb)
 obtain⟨g1,g2,g3,g4⟩:=ys5 (l:=bl S) (by rw[<- hPb];exact hc) (by rw[<- hPb];exact hn)
 rw[<- hPb] at g1 g2 g3 g4
 have HL:=zh (yfi.2 g1)
 have G2:=zh g2
 have G3:=zh g3
 have G4:=zh g4
 have HD:=zh (ydf hc).1
 have hz:(P.toList==[48])=decide (bl P=[48]):=eqS P [48]
 rw[hc] at PP
 have k0:=zh (K0.start w)
 obtain⟨zz,hzz⟩:∃ zz,decide (bl P=[48])=zz:=⟨_,rfl⟩
 rw[hzz] at hz
 have hn':isNeg (bl S)=true->zz=false:=fun h=>by rw[<- hzz];exact decide_eq_false (hn h)
 clear g1 g2 g3 g4 hc hn hPb hw hP hzz
 generalize mkRat (sg (isNeg (bl S)) (val (bl P))) 1=q at *
 cases hneg:isNeg (bl S)
 ·rw[hneg] at CP G4
  clear hn' hneg
  go_enter Tryz.func170,Tryz.ntmps170
  go_wp2_with (first
   | (go_at_call 204;refine(DG _ (yab k0.out.2.1 n)).mono ?_;rintro e w1 hdg;obtain⟨A,c,rfl,hN,hb⟩:=hdg.num HD.out;have k1:=zh ((k0.out.drewN n).up hb);have N1:=zh hN;have k3:=zh ((k1.out.alloc (.cells #[.int .u32 1] 226)).alloc (.cells #[.bool false,.slice A (nd (val (bl P))) c,.slice (some ⟨w1.heap.size,0,none⟩) 1 1] 178));obtain⟨r0,r1,r2⟩:=k3.out.1.cells;obtain⟨f0,f1,f2⟩:=k3.out.1.frozen;clear hdg hN hb)
   | (go_at_call 203;((with_reducible refine(PP _).mono ?_);rintro e w' ⟨rfl,rfl⟩))
   | (go_at_call 93;refine(CT _).mono ?_;rintro e w' ⟨rfl,n,rfl⟩)
   | (go_at_call 34;refine(CP _).mono ?_;rintro e w' ⟨rfl,rfl⟩))
  refine bodyPost_ret (v:=.tuple #[.agg #[.bool false,.slice A (nd (val (bl P))) c,.slice (some ⟨w1.heap.size,0,none⟩) 1 1],.bool true]) (by simp[results,Tryz.results170,go_sem,r0,r1,r2]) rfl ?_
  have b1:=(Below.refl w1.heap.size w1).alloc (Nat.le_refl _) (.cells #[.int .u32 1] 226)
  have b2:=(Below.refl _ (w1.alloc (.cells #[.int .u32 1] 226))).alloc (Nat.le_refl _) (.cells #[.bool false,.slice A (nd (val (bl P))) c,.slice (some ⟨w1.heap.size,0,none⟩) 1 1] 178)
  have M1:=((N1.out.up b1).up b2).put3 k3.out.1 rfl rfl rfl (a:=.bool false) (b:=.slice A (nd (val (bl P))) c) (d:=.slice (some ⟨w1.heap.size,0,none⟩) 1 1)
  have M2:=((Nt.one w1 226).up b2).put3 k3.out.1 rfl rfl rfl (a:=.bool false) (b:=.slice A (nd (val (bl P))) c) (d:=.slice (some ⟨w1.heap.size,0,none⟩) 1 1)
  have F:=Fr.of_parts G4.out G2.out G3.out M1 M2
  rw[ye8] at F
  rw[HL.out]
  exact⟨_,_,_,_,_,_,_,rfl,yaj k3.out.2.1 (Nat.le_refl _),fun q' h=>by injection h with h;subst h;exact F⟩
 ·rw[hneg] at CP G4
  have:=hn' hneg
  subst this
  clear hn' hneg
  go_enter Tryz.func170,Tryz.ntmps170
  go_wp2_with (first
   | (go_at_call 204;refine(DG _ (yab k0.out.2.1 n)).mono ?_;rintro e w1 hdg;obtain⟨A,c,rfl,hN,hb⟩:=hdg.num HD.out;have k1:=zh ((k0.out.drewN n).up hb);have N1:=zh hN;have k3:=zh ((k1.out.alloc (.cells #[.int .u32 1] 226)).alloc (.cells #[.bool true,.slice A (nd (val (bl P))) c,.slice (some ⟨w1.heap.size,0,none⟩) 1 1] 178));obtain⟨r0,r1,r2⟩:=k3.out.1.cells;obtain⟨f0,f1,f2⟩:=k3.out.1.frozen;clear hdg hN hb)
   | (go_at_call 203;((with_reducible refine(PP _).mono ?_);rintro e w' ⟨rfl,rfl⟩))
   | (go_at_call 93;refine(CT _).mono ?_;rintro e w' ⟨rfl,n,rfl⟩)
   | (go_at_call 34;refine(CP _).mono ?_;rintro e w' ⟨rfl,rfl⟩))
  refine bodyPost_ret (v:=.tuple #[.agg #[.bool true,.slice A (nd (val (bl P))) c,.slice (some ⟨w1.heap.size,0,none⟩) 1 1],.bool true]) (by simp[results,Tryz.results170,go_sem,r0,r1,r2]) rfl ?_
  have b1:=(Below.refl w1.heap.size w1).alloc (Nat.le_refl _) (.cells #[.int .u32 1] 226)
  have b2:=(Below.refl _ (w1.alloc (.cells #[.int .u32 1] 226))).alloc (Nat.le_refl _) (.cells #[.bool true,.slice A (nd (val (bl P))) c,.slice (some ⟨w1.heap.size,0,none⟩) 1 1] 178)
  have M1:=((N1.out.up b1).up b2).put3 k3.out.1 rfl rfl rfl (a:=.bool true) (b:=.slice A (nd (val (bl P))) c) (d:=.slice (some ⟨w1.heap.size,0,none⟩) 1 1)
  have M2:=((Nt.one w1 226).up b2).put3 k3.out.1 rfl rfl rfl (a:=.bool true) (b:=.slice A (nd (val (bl P))) c) (d:=.slice (some ⟨w1.heap.size,0,none⟩) 1 1)
  have F:=Fr.of_parts G4.out G2.out G3.out M1 M2
  rw[ye8] at F
  rw[HL.out]
  exact⟨_,_,_,_,_,_,_,rfl,yaj k3.out.2.1 (Nat.le_refl _),fun q' h=>by injection h with h;subst h;exact F⟩
theorem Rs.set2 {w:World} {g:Nat} {a b c v:Value} {t:TypeId} (k:Rs w g a b c t):Rs (w.setCell ⟨g,2,none⟩ v) g a b v t:=by
 unfold Rs at *
 simp[World.setCell,Array.getElem?_modify,k]
theorem Rs.set_other {w:World} {g h i:Nat} {a b c v:Value} {t:TypeId} (k:Rs w g a b c t) (hne:g≠h):Rs (w.setCell ⟨h,i,none⟩ v) g a b c t:=by
 unfold Rs at *
 simp only[World.setCell,Array.getElem?_modify]
 rw[if_neg (fun e=>hne e.symm)]
 exact k
theorem Nt.set2 {k:IntKind} {w:World} {A:Option Addr} {c v g:Nat} {x y z d:Value} {t:TypeId} (h:Nt k w w.heap.size A c v) (hr:Rs w g x y z t) (hx:notInt x=true) (hy:notInt y=true) (hz:notInt z=true) :
  Nt k (w.setCell ⟨g,2,none⟩ d) (w.setCell ⟨g,2,none⟩ d).heap.size A c v:=by
 have e:(w.setCell ⟨g,2,none⟩ d).heap.size=w.heap.size:=by simp[World.setCell]
 rw[e]
 have h3:=Fs.put3 h hr hx hy hz (a:=x) (b:=y) (d:=d)
 refine⟨h3.1,h3.2.1,fun hn=>?_⟩
 obtain⟨b,off,e1,hlt,hc⟩:=h3.2.2 hn
 refine⟨b,off,e1,hlt,fun j hj=>?_⟩
 rw[<- hc j hj]
 unfold Rs at hr
 have e2:(Go.Proofs.YtajmjllhdcdkmaaGreatDoor.put3 w g x y d).heap[b]?=(w.setCell ⟨g,2,none⟩ d).heap[b]?:=by
  by_cases hb:b=g
  ·subst hb
   simp[Go.Proofs.YtajmjllhdcdkmaaGreatDoor.put3,World.setCell,Array.getElem?_modify,hr]
  ·rw[yfk _ _ _ _ _ hb]
   simp only[World.setCell,Array.getElem?_modify]
   rw[if_neg (fun e=>hb e.symm)]
 simp only[World.cell?,e2]
theorem K0.set {w w1:World} (h:K0 w w1) {g i:Nat} (hg:g≠w.heap.size) (hg2:w.heap.size<=g) (v:Value):K0 w (w1.setCell ⟨g,i,none⟩ v):=
 ⟨h.1.set_other (fun e=>hg e.symm),h.2.1.setCell hg2 _,by simp[World.setCell];exact h.2.2⟩
theorem yj0 (S:ByteArray) (w:World) (hw:Wf w) (P Q R:ByteArray)
  (CP:∀ w,Calls Tryz.prog 34 #[.string S,.string ⟨#[45]⟩] w fun e w'=>e=.returned (.tuple #[.string R,.bool (isNeg (bl S))])/\w=w')
  (CT:∀ w,Calls Tryz.prog 93 #[.string R,.string ⟨#[47]⟩] w fun e w'=>e=.returned (.tuple #[.string P,.string Q,.bool true])/\∃ n,w'=w.drewN n)
  (hP:P.size<=100) (hQ:Q.size<=100) (hb:body (bl S)=bl P++47::bl Q) (h47:(47:UInt8) ∉ bl P) (hc:canon (bl P)=true) (hc2:canon (bl Q)=true) (hp0:bl P≠[48]) (hq0:bl Q≠[48]) (hq1:bl Q≠[49]) :
  Calls Tryz.prog 170 #[.string S] w (ReadQ (lng? (bl S)) w):=by
 have PP:=fun w=>yd5 P (by omega) w
 have PQ:=fun w=>yd5 Q (by omega) w
 rw[hc] at PP
 rw[hc2] at PQ
 have DP:=fun w' (hb:Below w.heap.size w w')=>ya4 P (by omega) w' (hw.up hb)
 have DQ:=fun w' (hb:Below w.heap.size w w')=>ya4 Q (by omega) w' (hw.up hb)
 have n1:nd (val (bl P))<=100:=Nat.le_trans (ybj _ (ydf hc).1) (by rw[yag];exact hP)
 have n2:nd (val (bl Q))<=100:=Nat.le_trans (ybj _ (ydf hc2).1) (by rw[yag];exact hQ)
 have GC:=fun w' A A' c c' h h'=>yp4 A A' c c' (val (bl P)) (val (bl Q)) w' h h' (by omega) (by omega)
 have HD:=zh (ydf hc).1
 have HD2:=zh (ydf hc2).1
 have z1:(P.toList==[48])=false:=by rw[eqS];exact decide_eq_false hp0
 have z2:(Q.toList==[48])=false:=by rw[eqS];exact decide_eq_false hq0
 have z3:(Q.toList==[49])=false:=by rw[eqS];exact decide_eq_false hq1
 have k0:=zh (K0.start w)
 have FIN:Hid ((Nat.gcd (val (bl P)) (val (bl Q))=1->lng? (bl S)=some (mkRat (sg (isNeg (bl S)) (val (bl P))) (val (bl Q))))/\(Nat.gcd (val (bl P)) (val (bl Q))≠1->lng? (bl S)=none)):=
  ⟨fun hg=>yfi.2 (yn0 hb hc hc2 hp0 hq0 hq1 hg).1,fun hg=>yl8 fun q e=>hg (yfl hb h47 e).2.2.2.2.2.1⟩
 have PRT:Hid (Nat.gcd (val (bl P)) (val (bl Q))=1->ngt (mkRat (sg (isNeg (bl S)) (val (bl P))) (val (bl Q)))=isNeg (bl S)/\top (mkRat (sg (isNeg (bl S)) (val (bl P))) (val (bl Q)))=val (bl P)/\(mkRat (sg (isNeg (bl S)) (val (bl P))) (val (bl Q))).den=val (bl Q)):=by
  intro hg
  obtain⟨_,p2,p3,p4⟩:=yn0 hb hc hc2 hp0 hq0 hq1 hg
  exact⟨p4,p2,p3⟩
 clear hb h47 hc hc2 hp0 hq0 hq1 hP hQ hw n1 n2
 generalize mkRat (sg (isNeg (bl S)) (val (bl P))) (val (bl Q))=q at *
 obtain⟨g,hgg⟩:∃ g,Nat.gcd (val (bl P)) (val (bl Q))=g:=⟨_,rfl⟩
 rw[hgg] at GC FIN PRT
 clear hgg
 have OG:=fun w' A c h=>ydb A c g w' h
 cases hneg:isNeg (bl S)
 ·rw[hneg] at CP PRT
  clear hneg
  go_enter Tryz.func170,Tryz.ntmps170
  go_wp2_with (first
   | (go_at_call 204;(refine(DQ _ k3.out.2.1).mono ?_;rintro e w4 hdg;obtain⟨A2,c2,rfl,hN,hb⟩:=hdg.num HD2.out;have k4:=zh (k3.out.up hb);have N2:=zh hN;have N1':=zh (N3.out.up hb);have L4:=zh (L3.out.below hb S3.out);obtain⟨u0,u1,u2⟩:=L4.out.cells;obtain⟨g0,g1,g2⟩:=L4.out.frozen;clear hdg hN hb))
   | (go_at_call 204;refine(DP _ (yab k0.out.2.1 n)).mono ?_;rintro e w1 hdg;obtain⟨A,c,rfl,hN,hb⟩:=hdg.num HD.out;have k1:=zh ((k0.out.drewN n).up hb);have k2:=k1.out.alloc (.cells #[.int .u32 1] 226);have k3:=zh (k2.alloc (.cells #[.bool false,.slice A (nd (val (bl P))) c,.slice (some ⟨w1.heap.size,0,none⟩) 1 1] 178));have b1:=(Below.refl w1.heap.size w1).alloc (Nat.le_refl _) (.cells #[.int .u32 1] 226);have bx:=ya1 (w1.alloc (.cells #[.int .u32 1] 226)) (.bool false) (.slice A (nd (val (bl P))) c) (.slice (some ⟨w1.heap.size,0,none⟩) 1 1) 178;have e1:(w1.alloc (.cells #[.int .u32 1] 226)).heap.size=w1.heap.size+1:=(by simp);have N3:=zh ((hN.up b1).up (bx.2.1));have HE:=zh e1;rw[e1] at bx;have L3:=zh bx.1;have S3:=zh bx.2.2;have G1:=zh k1.out.2.2;clear hdg hN hb k2 b1 bx e1)
   | (go_at_call 203;((with_reducible refine(PQ _).mono ?_);rintro e w' ⟨rfl,rfl⟩))
   | (go_at_call 203;((with_reducible refine(PP _).mono ?_);rintro e w' ⟨rfl,rfl⟩))
   | (go_at_call 93;refine(CT _).mono ?_;rintro e w' ⟨rfl,n,rfl⟩)
   | (go_at_call 34;refine(CP _).mono ?_;rintro e w' ⟨rfl,rfl⟩))
  have hLw:w1.heap.size+1≠w.heap.size:=by have:=G1.out;omega
  have L5:=zh (L4.out.set2 (v:=.slice A2 (nd (val (bl Q))) c2))
  have M1:=zh (N1'.out.set2 L4.out rfl rfl rfl (d:=.slice A2 (nd (val (bl Q))) c2))
  have M2:=zh (N2.out.set2 L4.out rfl rfl rfl (d:=.slice A2 (nd (val (bl Q))) c2))
  have k5:=zh (k4.out.set (i:=2) hLw (by have:=G1.out;omega) (.slice A2 (nd (val (bl Q))) c2))
  have HLW:=zh hLw
  have hLt:w1.heap.size+1<(w4.setCell ⟨w1.heap.size+1,2,none⟩ (.slice A2 (nd (val (bl Q))) c2)).heap.size:=by
   have h:=L5.out
   unfold Rs at h
   exact(Array.getElem?_eq_some_iff.1 h).1
  have HLT:=zh hLt
  obtain⟨x0,x1,x2⟩:=L5.out.cells
  clear u0 u1 u2 g0 g1 g2 L4 N1' N2 k4 hLw hLt
  generalize w4.setCell ⟨w1.heap.size+1,2,none⟩ (.slice A2 (nd (val (bl Q))) c2)=w5 at *
  generalize w1.heap.size+1=L at *
  go_region_held3 (fun w'=>w'.cell? ⟨L,0,none⟩=some (.bool false)/\w'.cell? ⟨L,1,none⟩=some (.slice A (nd (val (bl P))) c)/\w'.cell? ⟨L,2,none⟩=some (.slice A2 (nd (val (bl Q))) c2))
   (first|exact(L6.out.put3_other HLW.out).cells|exact L6.out.cells|go_keep)
   (first
    | (go_at_call 205;refine(GC _ _ _ _ _ (M1.out.drewN 1) (M2.out.drewN 1)).mono ?_;rintro e w6 ⟨A3,c3,rfl,hN,hb⟩;have N3':=zh hN;have k6:=zh ((k5.out.drewN 1).up hb);have L6:=zh (L5.out.below (B:=w5.heap.size) ((yab (Below.refl _ w5) 1).trans hb) HLT.out);have P1:=zh ((M1.out.drewN 1).up hb);have P2:=zh ((M2.out.drewN 1).up hb);obtain⟨r0,r1,r2⟩:=k6.out.1.cells;obtain⟨f0,f1,f2⟩:=k6.out.1.frozen;clear hN hb)
    | (go_at_call 206;refine(OG _ _ _ N3'.out).mono ?_;rintro e w7 ⟨rfl,rfl⟩))
  go_wp2
  refine bodyPost_ret (v:=.tuple #[.agg #[.bool false,.slice A (nd (val (bl P))) c,.slice A2 (nd (val (bl Q))) c2],.bool (decide (g=1))]) (by simp[results,Tryz.results170,go_sem,r0,r1,r2]) rfl ?_
  have T1:=P1.out.put3 k6.out.1 rfl rfl rfl (a:=.bool false) (b:=.slice A (nd (val (bl P))) c) (d:=.slice A2 (nd (val (bl Q))) c2)
  have T2:=P2.out.put3 k6.out.1 rfl rfl rfl (a:=.bool false) (b:=.slice A (nd (val (bl P))) c) (d:=.slice A2 (nd (val (bl Q))) c2)
  by_cases hg:g=1
  ·obtain⟨e1,e2,e3⟩:=PRT.out hg
   have F:=Fr.of_parts e1 e2 e3 T1 T2
   rw[FIN.out.1 hg,decide_eq_true hg]
   exact⟨_,_,_,_,_,_,_,rfl,yaj k6.out.2.1 (Nat.le_refl _),fun q' h=>by injection h with h;subst h;exact F⟩
  ·rw[FIN.out.2 hg,decide_eq_false hg]
   exact⟨_,_,_,_,_,_,_,rfl,yaj k6.out.2.1 (Nat.le_refl _),fun q' h=>by cases h⟩
 ·rw[hneg] at CP PRT
  clear hneg
  go_enter Tryz.func170,Tryz.ntmps170
  go_wp2_with (first
   | (go_at_call 204;(refine(DQ _ k3.out.2.1).mono ?_;rintro e w4 hdg;obtain⟨A2,c2,rfl,hN,hb⟩:=hdg.num HD2.out;have k4:=zh (k3.out.up hb);have N2:=zh hN;have N1':=zh (N3.out.up hb);have L4:=zh (L3.out.below hb S3.out);obtain⟨u0,u1,u2⟩:=L4.out.cells;obtain⟨g0,g1,g2⟩:=L4.out.frozen;clear hdg hN hb))
   | (go_at_call 204;refine(DP _ (yab k0.out.2.1 n)).mono ?_;rintro e w1 hdg;obtain⟨A,c,rfl,hN,hb⟩:=hdg.num HD.out;have k1:=zh ((k0.out.drewN n).up hb);have k2:=k1.out.alloc (.cells #[.int .u32 1] 226);have k3:=zh (k2.alloc (.cells #[.bool true,.slice A (nd (val (bl P))) c,.slice (some ⟨w1.heap.size,0,none⟩) 1 1] 178));have b1:=(Below.refl w1.heap.size w1).alloc (Nat.le_refl _) (.cells #[.int .u32 1] 226);have bx:=ya1 (w1.alloc (.cells #[.int .u32 1] 226)) (.bool true) (.slice A (nd (val (bl P))) c) (.slice (some ⟨w1.heap.size,0,none⟩) 1 1) 178;have e1:(w1.alloc (.cells #[.int .u32 1] 226)).heap.size=w1.heap.size+1:=(by simp);have N3:=zh ((hN.up b1).up (bx.2.1));have HE:=zh e1;rw[e1] at bx;have L3:=zh bx.1;have S3:=zh bx.2.2;have G1:=zh k1.out.2.2;clear hdg hN hb k2 b1 bx e1)
   | (go_at_call 203;((with_reducible refine(PQ _).mono ?_);rintro e w' ⟨rfl,rfl⟩))
   | (go_at_call 203;((with_reducible refine(PP _).mono ?_);rintro e w' ⟨rfl,rfl⟩))
   | (go_at_call 93;refine(CT _).mono ?_;rintro e w' ⟨rfl,n,rfl⟩)
   | (go_at_call 34;refine(CP _).mono ?_;rintro e w' ⟨rfl,rfl⟩))
  have hLw:w1.heap.size+1≠w.heap.size:=by have:=G1.out;omega
  have L5:=zh (L4.out.set2 (v:=.slice A2 (nd (val (bl Q))) c2))
  have M1:=zh (N1'.out.set2 L4.out rfl rfl rfl (d:=.slice A2 (nd (val (bl Q))) c2))
  have M2:=zh (N2.out.set2 L4.out rfl rfl rfl (d:=.slice A2 (nd (val (bl Q))) c2))
  have k5:=zh (k4.out.set (i:=2) hLw (by have:=G1.out;omega) (.slice A2 (nd (val (bl Q))) c2))
  have HLW:=zh hLw
  have hLt:w1.heap.size+1<(w4.setCell ⟨w1.heap.size+1,2,none⟩ (.slice A2 (nd (val (bl Q))) c2)).heap.size:=by
   have h:=L5.out
   unfold Rs at h
   exact(Array.getElem?_eq_some_iff.1 h).1
  have HLT:=zh hLt
  obtain⟨x0,x1,x2⟩:=L5.out.cells
  clear u0 u1 u2 g0 g1 g2 L4 N1' N2 k4 hLw hLt
  generalize w4.setCell ⟨w1.heap.size+1,2,none⟩ (.slice A2 (nd (val (bl Q))) c2)=w5 at *
  generalize w1.heap.size+1=L at *
  go_region_held3 (fun w'=>w'.cell? ⟨L,0,none⟩=some (.bool true)/\w'.cell? ⟨L,1,none⟩=some (.slice A (nd (val (bl P))) c)/\w'.cell? ⟨L,2,none⟩=some (.slice A2 (nd (val (bl Q))) c2))
   (first|exact(L6.out.put3_other HLW.out).cells|exact L6.out.cells|go_keep)
   (first
    | (go_at_call 205;refine(GC _ _ _ _ _ (M1.out.drewN 1) (M2.out.drewN 1)).mono ?_;rintro e w6 ⟨A3,c3,rfl,hN,hb⟩;have N3':=zh hN;have k6:=zh ((k5.out.drewN 1).up hb);have L6:=zh (L5.out.below (B:=w5.heap.size) ((yab (Below.refl _ w5) 1).trans hb) HLT.out);have P1:=zh ((M1.out.drewN 1).up hb);have P2:=zh ((M2.out.drewN 1).up hb);obtain⟨r0,r1,r2⟩:=k6.out.1.cells;obtain⟨f0,f1,f2⟩:=k6.out.1.frozen;clear hN hb)
    | (go_at_call 206;refine(OG _ _ _ N3'.out).mono ?_;rintro e w7 ⟨rfl,rfl⟩))
  go_wp2
  refine bodyPost_ret (v:=.tuple #[.agg #[.bool true,.slice A (nd (val (bl P))) c,.slice A2 (nd (val (bl Q))) c2],.bool (decide (g=1))]) (by simp[results,Tryz.results170,go_sem,r0,r1,r2]) rfl ?_
  have T1:=P1.out.put3 k6.out.1 rfl rfl rfl (a:=.bool true) (b:=.slice A (nd (val (bl P))) c) (d:=.slice A2 (nd (val (bl Q))) c2)
  have T2:=P2.out.put3 k6.out.1 rfl rfl rfl (a:=.bool true) (b:=.slice A (nd (val (bl P))) c) (d:=.slice A2 (nd (val (bl Q))) c2)
  by_cases hg:g=1
  ·obtain⟨e1,e2,e3⟩:=PRT.out hg
   have F:=Fr.of_parts e1 e2 e3 T1 T2
   rw[FIN.out.1 hg,decide_eq_true hg]
   exact⟨_,_,_,_,_,_,_,rfl,yaj k6.out.2.1 (Nat.le_refl _),fun q' h=>by injection h with h;subst h;exact F⟩
  ·rw[FIN.out.2 hg,decide_eq_false hg]
   exact⟨_,_,_,_,_,_,_,rfl,yaj k6.out.2.1 (Nat.le_refl _),fun q' h=>by cases h⟩
theorem ye7 (R:ByteArray) (c:UInt8) (hs:R.size<=9223372036854775807):∃ (P Q:ByteArray) (f:Bool),
  (∀ w,Calls Tryz.prog 93 #[.string R,.string ⟨#[c]⟩] w fun e w'=>e=.returned (.tuple #[.string P,.string Q,.bool f])/\∃ n,w'=w.drewN n)/\
  (f=true->bl R=bl P++c::bl Q/\c ∉ bl P)/\(f=false->P=R/\Q=⟨#[]⟩/\c ∉ bl R):=by
 by_cases hm:c ∈ bl R
 ·obtain⟨a,b,h1,h2⟩:=List.append_of_mem hm |>.elim fun a h=>h.elim fun b h=>(by
   obtain⟨x,y,e1,e2⟩:∃ x y,bl R=x++c::y/\c ∉ x:=by
    rcases ydz (bl R) c with ⟨_,h2⟩|⟨x,y,e1,e2,_⟩
    ·exact absurd hm h2
    ·exact⟨x,y,e1,e2⟩
   exact(⟨x,y,e1,e2⟩:∃ x y,bl R=x++c::y/\c ∉ x))
  refine⟨⟨a.toArray⟩,⟨b.toArray⟩,true,fun w=>(ypa R c hs w).mono ?_,fun _=>⟨h1,h2⟩,fun h=>by cases h⟩
  rintro e w' ⟨P,Q,f,rfl,g1,g2,g3⟩
  cases f
  ·exact absurd hm (g2 rfl).2.2
  ·obtain⟨g4,g5⟩:=g1 rfl
   obtain⟨e1,e2⟩:=yhd h2 g5 (h1.symm.trans g4)
   exact⟨by rw[show P=⟨a.toArray⟩ from bl_eq.2 e1.symm,show Q=⟨b.toArray⟩ from bl_eq.2 e2.symm],g3⟩
 ·refine⟨R,⟨#[]⟩,false,fun w=>(ypa R c hs w).mono ?_,(fun h=>by cases h),fun _=>⟨rfl,rfl,hm⟩⟩
  rintro e w' ⟨P,Q,f,rfl,g1,g2,g3⟩
  cases f
  ·obtain⟨rfl,rfl,_⟩:=g2 rfl
   exact⟨rfl,g3⟩
  ·exact absurd (by rw[(g1 rfl).1];simp) hm
theorem ycc (S:ByteArray) (w:World):Calls Tryz.prog 34 #[.string S,.string ⟨#[45]⟩] w fun e w'=>e=.returned (.tuple #[.string ⟨(body (bl S)).toArray⟩,.bool (isNeg (bl S))])/\w=w':=by
 refine(ymy S w).mono ?_
 rintro e w' ⟨R,rfl,h,rfl⟩
 exact⟨by rw[show R=⟨(body (bl S)).toArray⟩ from bl_eq.2 h],rfl⟩
theorem yh8 (S:ByteArray) (w:World):Calls Tryz.prog 169 #[.string S,.string ⟨#[45]⟩] w fun e w'=>e=.returned (.string ⟨(body (bl S)).toArray⟩)/\w=w':=by
 refine(ylb S w).mono ?_
 rintro e w' ⟨R,rfl,h,rfl⟩
 exact⟨by rw[show R=⟨(body (bl S)).toArray⟩ from bl_eq.2 h],rfl⟩
theorem yip {c1 neg z f c2 q0 q1:Bool} (h:refuses c1 neg z f c2 q0 q1=false):c1=true/\(neg=true->z=false)/\(f=true->c2=true/\q0=false/\q1=false/\z=false):=by
 revert h
 cases c1<;>cases neg<;>cases z<;>cases f<;>cases c2<;>cases q0<;>cases q1<;>decide
theorem yjj (S:ByteArray) (hs:S.size<=100) (w:World) (hw:Wf w):Calls Tryz.prog 170 #[.string S] w (ReadQ (lng? (bl S)) w):=by
 have hR:(⟨(body (bl S)).toArray⟩:ByteArray).size<=100:=by
  rw[<- yag]
  have:=yfc (bl S)
  rw[yag] at this
  exact Nat.le_trans this hs
 obtain⟨P,Q,f,CT,h1,h2⟩:=ye7 ⟨(body (bl S)).toArray⟩ 47 (by omega)
 have hR':(body (bl S)).length<=100:=by rw[<- yag] at hR;exact hR
 have hP:P.size<=100:=by
  cases f
  ·rw[(h2 rfl).1];exact hR
  ·have:=congrArg List.length (h1 rfl).1
   rw[List.length_append,bl_mk] at this
   rw[<- yag];omega
 have hQ:Q.size<=100:=by
  cases f
  ·rw[(h2 rfl).2.1];exact Nat.zero_le _
  ·have:=congrArg List.length (h1 rfl).1
   rw[List.length_append,bl_mk,List.length_cons] at this
   rw[<- yag];omega
 have zP:=eqS P [48]
 have zQ:=eqS Q [48]
 have zQ1:=eqS Q [49]
 have no_of:refuses (canon (bl P)) (isNeg (bl S)) (P.toList==[48]) f (canon (bl Q)) (Q.toList==[48]) (Q.toList==[49])=true->lng? (bl S)=none:=by
  intro hr
  refine yl8 fun q hq=>?_
  cases f
  ·obtain⟨e1,_,e3⟩:=h2 rfl
   have hb:bl P=body (bl S):=by rw[e1];rfl
   obtain⟨g1,g2⟩:=ym1 (by exact e3) hq
   rw[<- hb] at g1 g2
   rw[g1,zP] at hr
   unfold refuses at hr
   simp only[Bool.not_true,Bool.false_or,Bool.false_and,Bool.or_false,Bool.and_eq_true,decide_eq_true_eq] at hr
   exact g2 hr.1 hr.2
  ·obtain⟨e1,e2⟩:=h1 rfl
   obtain⟨g1,g2,g3,g4,g5,_⟩:=yfl (by exact e1) e2 hq
   rw[g1,g2,zP,zQ,zQ1,decide_eq_false g3,decide_eq_false g4,decide_eq_false g5] at hr
   unfold refuses at hr
   simp at hr
 cases hr:refuses (canon (bl P)) (isNeg (bl S)) (P.toList==[48]) f (canon (bl Q)) (Q.toList==[48]) (Q.toList==[49])
 ·obtain⟨c1,c2,c3⟩:=yip hr
  cases f
  ·have hb:bl P=body (bl S):=by rw[(h2 rfl).1];rfl
   exact yjg S w hw P Q _ (ycc S) CT hP hb c1 (fun h e=>by have:=c2 h;rw[zP] at this;exact of_decide_eq_false this e)
  ·obtain⟨e1,e2⟩:=h1 rfl
   obtain⟨d1,d2,d3,d4⟩:=c3 rfl
   rw[zP] at d4;rw[zQ] at d2;rw[zQ1] at d3
   exact yj0 S w hw P Q _ (ycc S) CT hP hQ e1 e2 c1 d1 (of_decide_eq_false d4) (of_decide_eq_false d2) (of_decide_eq_false d3)
 ·exact yk7 S hs w (no_of hr) P Q f _ (ycc S) CT hP hQ hr
theorem ydn (S:ByteArray) (hs:S.size<=9223372036854775807) (w:World) (hw:Wf w):Calls Tryz.prog 127 #[.string S] w (ReadQ (num? (bl S)) w):=by
 have hR:(⟨(body (bl S)).toArray⟩:ByteArray).size<=S.size:=by
  rw[<- yag,<- yag]
  exact yfc (bl S)
 obtain⟨P,Q,f,CT,h1,h2⟩:=ye7 ⟨(body (bl S)).toArray⟩ 47 (by omega)
 have TP:=yh8 S
 have hsh:∀ q,txt q=bl S->short q=(decide (P.size<=40)&&decide (Q.size<=40)):=by
  intro q hq
  cases f
  ·obtain⟨e1,e2,e3⟩:=h2 rfl
   have hb:bl P=body (bl S):=by rw[e1];rfl
   rw[ynw (by exact e3) hq,<- hb,yag,e2]
   have:decide ((⟨#[]⟩:ByteArray).size<=40)=true:=rfl
   rw[this,Bool.and_true]
  ·obtain⟨e1,e2⟩:=h1 rfl
   rw[yqd (by exact e1) e2 hq,yag,yag]
 have hno:(decide (P.size<=40)&&decide (Q.size<=40))=false->num? (bl S)=none:=by
  intro h
  cases hn:num? (bl S) with
  | none=>rfl
  | some q=>
   obtain⟨e1,e2⟩:=ycf.1 hn
   rw[hsh q e1,h] at e2;cases e2
 have hyes:(decide (P.size<=40)&&decide (Q.size<=40))=true->num? (bl S)=lng? (bl S)/\S.size<=100:=by
  intro h
  refine⟨?_,?_⟩
  ·rw[ytc]
   cases hl:lng? (bl S) with
   | none=>rfl
   | some q=>
    have:=hsh q (yfi.1 hl)
    rw[h] at this
    simp[Option.filter,this]
  ·simp only[Bool.and_eq_true,decide_eq_true_eq] at h
   have e:=yid (bl S)
   have e':=congrArg List.length e
   rw[List.length_append,yag] at e'
   have e2:(if isNeg (bl S)=true then ([45]:List UInt8) else []).length<=1:=by split<;>simp
   have e3:(body (bl S)).length<=81:=by
    cases f
    ·have hb:bl P=body (bl S):=by rw[(h2 rfl).1];rfl
     rw[<- hb,yag];omega
    ·have:=congrArg List.length (h1 rfl).1
     rw[List.length_append,bl_mk,List.length_cons,yag,yag] at this
     omega
   omega
 have k0:=zh (K0.start w)
 have HNO:=zh hno
 clear h1 h2 hsh hno
 generalize (⟨(body (bl S)).toArray⟩:ByteArray)=R at *
 by_cases c1:P.size<=40
 ·have i1:¬(40:Int)<(P.size:Int):=by omega
  by_cases c2:Q.size<=40
  ·obtain⟨e1,e2⟩:=hyes (by rw[decide_eq_true c1,decide_eq_true c2];rfl)
   have RL:=fun w' (hb:Below w.heap.size w w')=>yjj S e2 w' (hw.up hb)
   have i2:¬(40:Int)<(Q.size:Int):=by omega
   rw[e1]
   generalize lng? (bl S)=o at *
   clear hyes c1 c2 e1 hw
   go_enter Tryz.func127,Tryz.ntmps127
   go_wp2_with (first
    | (go_at_call 170;refine(RL _ (k0.out.drewN n).2.1).mono ?_;rintro e w2 ⟨b,A,l1,c1,A',l2,c2,rfl,hb,hF⟩;have k2:=zh ((k0.out.drewN n).up hb);have F:=zh hF;obtain⟨r0,r1,r2⟩:=k2.out.1.cells;obtain⟨f0,f1,f2⟩:=k2.out.1.frozen;clear hb hF)
    | (go_at_call 93;refine(CT _).mono ?_;rintro e w' ⟨rfl,n,rfl⟩)
    | (go_at_call 169;refine(TP _).mono ?_;rintro e w' ⟨rfl,rfl⟩))
   refine bodyPost_ret (v:=.tuple #[.agg #[.bool b,.slice A l1 c1,.slice A' l2 c2],.bool o.isSome]) (by simp[results,Tryz.results127,go_sem,r0,r1,r2]) rfl ?_
   refine⟨_,_,_,_,_,_,_,rfl,yaj k2.out.2.1 (Nat.le_refl _),fun q hq=>?_⟩
   obtain⟨B1,x1,B2,x2,e,n1,n2⟩:=F.out q hq
   exact⟨B1,x1,B2,x2,e,n1.put3 k2.out.1 rfl rfl rfl,n2.put3 k2.out.1 rfl rfl rfl⟩
  ·have hn:=HNO.out (by rw[decide_eq_true c1,decide_eq_false c2];rfl)
   have i2:(40:Int)<(Q.size:Int):=by omega
   obtain⟨r0,r1,r2⟩:=k0.out.1.cells
   rw[hn]
   clear hyes c1 c2 hn hw
   go_enter Tryz.func127,Tryz.ntmps127
   go_wp2_with (first
    | (go_at_call 93;refine(CT _).mono ?_;rintro e w' ⟨rfl,n,rfl⟩)
    | (go_at_call 169;refine(TP _).mono ?_;rintro e w' ⟨rfl,rfl⟩))
   exact bodyPost_ret (v:=.tuple #[.agg #[.bool false,.slice none 0 0,.slice none 0 0],.bool false]) (by simp[results,Tryz.results127,go_sem,r0,r1,r2]) rfl ⟨false,none,0,0,none,0,0,rfl,yaj (yab ((Below.refl _ w).alloc (Nat.le_refl _) _) _) (Nat.le_refl _),fun q h=>by cases h⟩
 ·have hn:=HNO.out (by rw[decide_eq_false c1,Bool.false_and])
  have i1:(40:Int)<(P.size:Int):=by omega
  obtain⟨r0,r1,r2⟩:=k0.out.1.cells
  rw[hn]
  clear hyes c1 hn hw
  go_enter Tryz.func127,Tryz.ntmps127
  go_wp2_with (first
   | (go_at_call 93;refine(CT _).mono ?_;rintro e w' ⟨rfl,n,rfl⟩)
   | (go_at_call 169;refine(TP _).mono ?_;rintro e w' ⟨rfl,rfl⟩))
  exact bodyPost_ret (v:=.tuple #[.agg #[.bool false,.slice none 0 0,.slice none 0 0],.bool false]) (by simp[results,Tryz.results127,go_sem,r0,r1,r2]) rfl ⟨false,none,0,0,none,0,0,rfl,yaj (yab ((Below.refl _ w).alloc (Nat.le_refl _) _) _) (Nat.le_refl _),fun q h=>by cases h⟩
theorem yhb {l:List UInt8} {q:Rat} (h:num? l=some q):sz q<=5:=by
 have hs:=(ycf.1 h).2
 unfold short at hs
 simp only[Bool.and_eq_true,decide_eq_true_eq] at hs
 have key:∀ n,(Lib.decDigits n).length<=40->nd n<=5:=by
  intro n hn
  have h1:=(ydd (u:=n) (k:=40) (by decide)).1 hn
  exact nd_le (Nat.lt_of_lt_of_le h1 (by rw[yi8];exact Nat.pow_le_pow_right (by decide) (by decide)))
 have h1:=key _ hs.1
 have h2:=key _ hs.2
 unfold sz
 omega
def bin (D:Rat->Rat->Option Rat) (l m:List UInt8):List UInt8:=match num? l,num? m with
 | some a,some b=>match D a b with
  | some q=>put q
  | none=>[]
 | _,_=>[]
theorem ysa (S T:ByteArray) (hs:S.size<=9223372036854775807) (ht:T.size<=9223372036854775807) (w:World) (hw:Wf w) (Bx:Nat) (D:Rat->Rat->Option Rat)
  (hD:∀ (w':World) (v1 v2:Value) (a b:Rat),Below w.heap.size w w'->Fr w' v1 a->Fr w' v2 b->sz a<=5->sz b<=5->Calls Tryz.prog 257 #[v1,v2,.pointer (some ⟨Bx,0,none⟩)] w' (ReadQ (D a b) w'))
  (hsz:∀ a b q,D a b=some q->sz a<=5->sz b<=5->sz q<=700000) :
  Calls Tryz.prog 235 #[.string S,.string T,.func (.func 257) #[] #[.pointer (some ⟨Bx,0,none⟩)]] w fun e w'=>e=.returned (.string ⟨(bin D (bl S) (bl T)).toArray⟩)/\Below w.heap.size w w':=by
 have R1:=fun w' (hb:Below w.heap.size w w')=>ydn S hs w' (hw.up hb)
 have R2:=fun w' (hb:Below w.heap.size w w')=>ydn T ht w' (hw.up hb)
 obtain⟨X,hX⟩:∃ X,bin D (bl S) (bl T)=X:=⟨_,rfl⟩
 rw[hX]
 cases h1:num? (bl S) with
 | none=>
  rw[h1] at R1
  have R2':=R2
  have HX:=zh (show X=[] by rw[<- hX];unfold bin;rw[h1])
  clear R2 hs ht h1 hD hsz hX
  generalize num? (bl T)=o2 at *
  go_enter Tryz.func235,Tryz.ntmps235
  go_wp2_with (first
   | (go_at_call 127;((with_reducible refine(R2' _ B1.out).mono ?_);rintro e w2 ⟨x,A3,l3,c3,A4,l4,c4,rfl,hb,hF⟩;have B2:=zh (yac (yac B1.out hb) (ya1 w2 (.bool x) (.slice A3 l3 c3) (.slice A4 l4 c4) 178).2.1);clear hb hF))
   | (go_at_call 127;((with_reducible refine(R1 _ (Below.refl _ _)).mono ?_);rintro e w1 ⟨y,A1,l1,c1,A2,l2,c2,rfl,hb,hF⟩;have bx:=ya1 w1 (.bool y) (.slice A1 l1 c1) (.slice A2 l2 c2) 178;have B1:=zh (yac hb bx.2.1);have L1:=zh bx.1;have S1:=zh bx.2.2;clear hb hF bx)))
  go_ret
  exact⟨by rw[HX.out];rfl,B2.out⟩
 | some a=>
  cases h2:num? (bl T) with
  | none=>
   rw[h1] at R1
   rw[h2] at R2
   have HX:=zh (show X=[] by rw[<- hX];unfold bin;rw[h1,h2])
   clear hs ht h1 h2 hD hsz hX
   go_enter Tryz.func235,Tryz.ntmps235
   go_wp2_with (first
    | (go_at_call 127;((with_reducible refine(R2 _ B1.out).mono ?_);rintro e w2 ⟨x,A3,l3,c3,A4,l4,c4,rfl,hb,hF⟩;have bx:=ya1 w2 (.bool x) (.slice A3 l3 c3) (.slice A4 l4 c4) 178;have B2:=zh (yac (yac B1.out hb) bx.2.1);have L2:=zh ((L1.out.below hb S1.out).below bx.2.1 (Nat.lt_of_lt_of_le S1.out hb.size));obtain⟨p0,p1,p2⟩:=L2.out.cells;clear hb hF bx))
    | (go_at_call 127;((with_reducible refine(R1 _ (Below.refl _ _)).mono ?_);rintro e w1 ⟨y,A1,l1,c1,A2,l2,c2,rfl,hb,hF⟩;have bx:=ya1 w1 (.bool y) (.slice A1 l1 c1) (.slice A2 l2 c2) 178;have B1:=zh (yac hb bx.2.1);have L1:=zh bx.1;have S1:=zh bx.2.2;clear hb hF bx)))
   go_ret
   exact⟨by rw[HX.out];rfl,B2.out⟩
  | some b=>
   have z1:=yhb h1
   have z2:=yhb h2
   rw[h1] at R1
   rw[h2] at R2
   have hX2:X=match D a b with
    | some q=>put q
    | none=>[]:=by rw[<- hX];unfold bin;rw[h1,h2]
   clear hs ht h1 h2 hX
   have hD':=fun w' v1 v2 hb f1 f2=>hD w' v1 v2 a b hb f1 f2 z1 z2
   have hz':=fun q h=>hsz a b q h z1 z2
   clear hD hsz z1 z2
   obtain⟨o,ho⟩:∃ o,D a b=o:=⟨_,rfl⟩
   rw[ho] at hD' hz' hX2
   clear ho
   cases o with
   | none=>
    have HX:=zh (show X=[] from hX2)
    clear hX2
    go_enter Tryz.func235,Tryz.ntmps235
    go_wp2_with (first
     | (go_at_call 257;((with_reducible refine(hD' _ _ _ B2.out F1'.out F2.out).mono ?_);rintro e w3 ⟨u,A5,l5,c5,A6,l6,c6,rfl,hb,hF⟩;have B3:=zh (yac (yac B2.out hb) (ya1 w3 (.bool u) (.slice A5 l5 c5) (.slice A6 l6 c6) 178).2.1);clear hb hF))
     | (go_at_call 127;((with_reducible refine(R2 _ B1.out).mono ?_);rintro e w2 ⟨x,A3,l3,c3,A4,l4,c4,rfl,hb,hF⟩;have bx:=ya1 w2 (.bool x) (.slice A3 l3 c3) (.slice A4 l4 c4) 178;have F2:=zh ((hF _ rfl).up bx.2.1);have F1':=zh ((F1.out.up hb).up bx.2.1);have B2:=zh (yac (yac B1.out hb) bx.2.1);have L2:=zh ((L1.out.below hb S1.out).below bx.2.1 (Nat.lt_of_lt_of_le S1.out hb.size));obtain⟨p0,p1,p2⟩:=L2.out.cells;clear hb hF bx))
     | (go_at_call 127;((with_reducible refine(R1 _ (Below.refl _ _)).mono ?_);rintro e w1 ⟨y,A1,l1,c1,A2,l2,c2,rfl,hb,hF⟩;have bx:=ya1 w1 (.bool y) (.slice A1 l1 c1) (.slice A2 l2 c2) 178;have F1:=zh ((hF _ rfl).up bx.2.1);have B1:=zh (yac hb bx.2.1);have L1:=zh bx.1;have S1:=zh bx.2.2;clear hb hF bx)))
    go_ret
    exact⟨by rw[HX.out];rfl,B3.out⟩
   | some q=>
    have hzq:=hz' q rfl
    have HZ:=zh hzq
    have VL:=fun w' v (hb:Below w.heap.size w w') (h:Fr w' v q)=>yhn v q w' (hw.up hb) h hzq
    have HX:=zh (show X=put q from hX2)
    clear hz' hzq hX2
    go_enter Tryz.func235,Tryz.ntmps235
    go_wp2_with (first
     | (go_at_call 130;((with_reducible refine(VL _ _ B3.out F3.out).mono ?_);rintro e w4 ⟨rfl,hb⟩;have B4:=zh (yac B3.out hb);clear hb))
     | (go_at_call 257;((with_reducible refine(hD' _ _ _ B2.out F1'.out F2.out).mono ?_);rintro e w3 ⟨u,A5,l5,c5,A6,l6,c6,rfl,hb,hF⟩;have bx:=ya1 w3 (.bool u) (.slice A5 l5 c5) (.slice A6 l6 c6) 178;have B3:=zh (yac (yac B2.out hb) bx.2.1);have F3:=zh ((hF _ rfl).up bx.2.1);clear hb hF bx))
     | (go_at_call 127;((with_reducible refine(R2 _ B1.out).mono ?_);rintro e w2 ⟨x,A3,l3,c3,A4,l4,c4,rfl,hb,hF⟩;have bx:=ya1 w2 (.bool x) (.slice A3 l3 c3) (.slice A4 l4 c4) 178;have F2:=zh ((hF _ rfl).up bx.2.1);have F1':=zh ((F1.out.up hb).up bx.2.1);have B2:=zh (yac (yac B1.out hb) bx.2.1);have L2:=zh ((L1.out.below hb S1.out).below bx.2.1 (Nat.lt_of_lt_of_le S1.out hb.size));obtain⟨p0,p1,p2⟩:=L2.out.cells;clear hb hF bx))
     | (go_at_call 127;((with_reducible refine(R1 _ (Below.refl _ _)).mono ?_);rintro e w1 ⟨y,A1,l1,c1,A2,l2,c2,rfl,hb,hF⟩;have bx:=ya1 w1 (.bool y) (.slice A1 l1 c1) (.slice A2 l2 c2) 178;have F1:=zh ((hF _ rfl).up bx.2.1);have B1:=zh (yac hb bx.2.1);have L1:=zh bx.1;have S1:=zh bx.2.2;clear hb hF bx)))
    go_ret
    exact⟨by rw[HX.out];rfl,B4.out⟩
theorem K3.giveT {w w':World} {a0 a1 a2 b0 b1 b2:Value} {t:TypeId} {q:Rat} {A A':Option Addr} {c c':Nat} (h:K3 w w' a0 a1 a2 b0 b1 b2 (.bool false) (.slice none 0 0) (.slice none 0 0) t)
  (n1:Nt .u32 w' w'.heap.size A c (top q)) (n2:Nt .u32 w' w'.heap.size A' c' q.den) :
  ReadQ (some q) w (.returned (.tuple #[.agg #[.bool (ngt q),.slice A (nd (top q)) c,.slice A' (nd q.den) c'],.bool true])) (put3 w' (w.heap.size+2) (.bool (ngt q)) (.slice A (nd (top q)) c) (.slice A' (nd q.den) c')):=by
 obtain⟨v,e,hF,hb⟩:=h.give n1 n2
 injection e with e
 subst e
 exact⟨_,_,_,_,_,_,_,rfl,hb,fun q' h'=>by injection h' with h';subst h';exact hF⟩
theorem K3.far {w w':World} {a0 a1 a2 b0 b1 b2 c0 c1 c2:Value} {t:TypeId} {g i:Nat} {v:Value} (h:K3 w w' a0 a1 a2 b0 b1 b2 c0 c1 c2 t) (hc:w.cell? ⟨g,i,none⟩=some v):w'.cell? ⟨g,i,none⟩=some v:=
 (h.2.2.2.2.cell (p:=⟨g,i,none⟩) (World.block_lt_of_cell? _ _ (by rw[hc]))).trans hc
theorem yrw (v1 v2:Value) (a b:Rat) (Bx:Nat) (w:World) (hB:w.cell? ⟨Bx,0,none⟩=some (.func (.func 128) #[] #[])) (h1:Fr w v1 a) (h2:Fr w v2 b) (z1:sz a<=5) (z2:sz b<=5) :
  Calls Tryz.prog 257 #[v1,v2,.pointer (some ⟨Bx,0,none⟩)] w (ReadQ (some (a*b)) w):=by
 have H1:=zh h1
 have H2:=zh h2
 obtain⟨A1,c1,A2,c2,rfl,n1,n2⟩:=h1
 obtain⟨A3,c3,A4,c4,rfl,n3,n4⟩:=h2
 have k0:=zh (K3.start w (.bool (ngt a)) (.slice A1 (nd (top a)) c1) (.slice A2 (nd a.den) c2) (.bool (ngt b)) (.slice A3 (nd (top b)) c3) (.slice A4 (nd b.den) c4) (.bool false) (.slice none 0 0) (.slice none 0 0) 178)
 obtain⟨p0,p1,p2,p3,p4,p5⟩:=k0.out.six
 have q0:=k0.out.far hB
 have OP:=fun w' (hb:Below w.heap.size w w')=>yhs _ _ a b w' (H1.out.up hb) (H2.out.up hb) (by omega)
 clear n1 n2 n3 n4 H1 H2 hB z1 z2
 unfold W3 at p0 p1 p2 p3 p4 p5 k0 q0
 generalize a*b=q at *
 generalize ngt a=x1 at *
 generalize ngt b=x2 at *
 generalize nd (top a)=l1 at *
 generalize nd (top b)=l2 at *
 generalize nd a.den=l3 at *
 generalize nd b.den=l4 at *
 go_enter Tryz.func257,Tryz.ntmps257
 go_wp2_with (go_at_call 128;refine(OP _ k0.out.2.2.2.2).mono ?_;rintro e w1 ⟨v,rfl,⟨A7,c7,A8,c8,rfl,n7,n8⟩,hb⟩;have k1:=zh (k0.out.up hb);have N7:=zh n7;have N8:=zh n8;obtain⟨r0,r1,r2⟩:=k1.out.2.2.1.cells;obtain⟨f0,f1,f2⟩:=k1.out.2.2.1.frozen;clear n7 n8 hb)
 refine bodyPost_ret (v:=.tuple #[.agg #[.bool (ngt q),.slice A7 (nd (top q)) c7,.slice A8 (nd q.den) c8],.bool true]) (by simp[results,Tryz.results257,go_sem,r0,r1,r2]) rfl ?_
 exact k1.out.giveT N7.out N8.out
def dMul (a b:Rat):Option Rat:=some (a*b)
theorem ysv:∀ a b q,dMul a b=some q->sz a<=5->sz b<=5->sz q<=700000:=by
 intro a b q h h1 h2
 injection h with h;subst h
 have:=yp8 a b;omega
def GiveT (w:World) (l:List UInt8) (e:Ending) (w':World):Prop:=e=.returned (.string ⟨l.toArray⟩)/\Below w.heap.size w w'
theorem Tryz.hmf (fn:Fn) (first cap:Array Value) (w:World):(Instr.makeFunc fn first cap).run Tryz.prog w=.ok (.func fn first cap) w:=rfl
theorem yqh (v:Value) (h1:v.oneCell'=true) (hk:∃ n,v=.func (.func n) #[] #[]) (w:World):Calls Tryz.prog 236 #[v] w fun e w'=>e=.returned (.func (.func 257) #[] #[.pointer (some ⟨w.heap.size,0,none⟩)])/\w.alloc (.cells #[v] 273)=w':=by
 have hmf:=Tryz.hmf
 obtain⟨n,rfl⟩:=hk
 clear h1
 go_enter Tryz.func236,Tryz.ntmps236
 go_wp2
 go_ret
 exact⟨rfl,rfl⟩
theorem yr8 (S T:ByteArray) (hs:S.size<=9223372036854775807) (ht:T.size<=9223372036854775807) (w:World) (hw:Wf w) :
  Calls Tryz.prog 201 #[.string S,.string T] w (GiveT w (bin dMul (bl S) (bl T))):=by
 have SU:=yqh (.func (.func 128) #[] #[]) rfl ⟨_,rfl⟩ w
 have b1:=(Below.refl w.heap.size w).alloc (Nat.le_refl _) (.cells #[.func (.func 128) #[] #[]] 273)
 have hc:(w.alloc (.cells #[.func (.func 128) #[] #[]] 273)).cell? ⟨w.heap.size,0,none⟩=some (.func (.func 128) #[] #[]):=World.cell?_alloc_mark w _ _ _ 0
 have hlt:w.heap.size<(w.alloc (.cells #[.func (.func 128) #[] #[]] 273)).heap.size:=by simp
 have TW:=ysa S T hs ht (w.alloc (.cells #[.func (.func 128) #[] #[]] 273)) (hw.up b1) w.heap.size dMul
  (fun w' v1 v2 a b hb f1 f2 z1 z2=>yrw v1 v2 a b w.heap.size w' ((hb.cell (p:=⟨w.heap.size,0,none⟩) hlt).trans hc) f1 f2 z1 z2) ysv
 have B1:=zh b1
 clear hs ht hw b1 hc hlt
 generalize bin dMul (bl S) (bl T)=X at *
 go_enter Tryz.func201,Tryz.ntmps201
 go_wp2_with (first
  | (go_at_call 235;((with_reducible refine TW.mono ?_);rintro e w2 ⟨rfl,hb⟩;have B2:=zh (B1.out.trans (hb.mono B1.out.size));clear hb))
  | (go_at_call 236;((with_reducible refine SU.mono ?_);rintro e w1 ⟨rfl,rfl⟩)))
 go_ret
 exact⟨rfl,B2.out⟩
def qcm (l m:List UInt8):Int×Bool:=match num? l,num? m with
 | some a,some b=>(sign (a - b),true)
 | _,_=>(0,false)
theorem yi9 (S T:ByteArray) (hs:S.size<=9223372036854775807) (ht:T.size<=9223372036854775807) (w:World) (hw:Wf w) :
  Calls Tryz.prog 124 #[.string S,.string T] w fun e w'=>e=.returned (.tuple #[.int .i64 (qcm (bl S) (bl T)).1,.bool (qcm (bl S) (bl T)).2])/\Below w.heap.size w w':=by
 have R1:=fun w' (hb:Below w.heap.size w w')=>ydn S hs w' (hw.up hb)
 have R2:=fun w' (hb:Below w.heap.size w w')=>ydn T ht w' (hw.up hb)
 obtain⟨X,hX⟩:∃ X,qcm (bl S) (bl T)=X:=⟨_,rfl⟩
 rw[hX]
 cases h1:num? (bl S) with
 | none=>
  rw[h1] at R1
  have HX:=zh (show X=(0,false) by rw[<- hX];unfold qcm;rw[h1])
  clear hs ht h1 hX
  generalize num? (bl T)=o2 at *
  go_enter Tryz.func124,Tryz.ntmps124
  go_wp2_with (first
   | (go_at_call 127;((with_reducible refine(R2 _ B1.out).mono ?_);rintro e w2 ⟨x,A3,l3,c3,A4,l4,c4,rfl,hb,hF⟩;have B2:=zh (yac (yac B1.out hb) (ya1 w2 (.bool x) (.slice A3 l3 c3) (.slice A4 l4 c4) 178).2.1);clear hb hF))
   | (go_at_call 127;((with_reducible refine(R1 _ (Below.refl _ _)).mono ?_);rintro e w1 ⟨y,A1,l1,c1,A2,l2,c2,rfl,hb,hF⟩;have B1:=zh (yac hb (ya1 w1 (.bool y) (.slice A1 l1 c1) (.slice A2 l2 c2) 178).2.1);clear hb hF)))
  go_ret2
  exact⟨by rw[HX.out];rfl,B2.out⟩
 | some a=>
  cases h2:num? (bl T) with
  | none=>
   rw[h1] at R1
   rw[h2] at R2
   have HX:=zh (show X=(0,false) by rw[<- hX];unfold qcm;rw[h1,h2])
   clear hs ht h1 h2 hX
   go_enter Tryz.func124,Tryz.ntmps124
   go_wp2_with (first
    | (go_at_call 127;((with_reducible refine(R2 _ B1.out).mono ?_);rintro e w2 ⟨x,A3,l3,c3,A4,l4,c4,rfl,hb,hF⟩;have B2:=zh (yac (yac B1.out hb) (ya1 w2 (.bool x) (.slice A3 l3 c3) (.slice A4 l4 c4) 178).2.1);clear hb hF))
    | (go_at_call 127;((with_reducible refine(R1 _ (Below.refl _ _)).mono ?_);rintro e w1 ⟨y,A1,l1,c1,A2,l2,c2,rfl,hb,hF⟩;have B1:=zh (yac hb (ya1 w1 (.bool y) (.slice A1 l1 c1) (.slice A2 l2 c2) 178).2.1);clear hb hF)))
   go_ret2
   exact⟨by rw[HX.out];rfl,B2.out⟩
  | some b=>
   have z1:=yhb h1
   have z2:=yhb h2
   rw[h1] at R1
   rw[h2] at R2
   have HX:=zh (show X=(sign (a - b),true) by rw[<- hX];unfold qcm;rw[h1,h2])
   have CM:=fun w' v1 v2 (h:Fr w' v1 a) (h':Fr w' v2 b)=>yqt v1 v2 a b w' h h' (by omega)
   clear hs ht h1 h2 hX z1 z2
   generalize sign (a - b)=z at *
   go_enter Tryz.func124,Tryz.ntmps124
   go_wp2_with (first
    | (go_at_call 162;((with_reducible refine(CM _ _ _ F1'.out F2.out).mono ?_);rintro e w3 ⟨rfl,hb⟩;have B3:=zh (yac B2.out hb);clear hb))
    | (go_at_call 127;((with_reducible refine(R2 _ B1.out).mono ?_);rintro e w2 ⟨x,A3,l3,c3,A4,l4,c4,rfl,hb,hF⟩;have bx:=ya1 w2 (.bool x) (.slice A3 l3 c3) (.slice A4 l4 c4) 178;have F2:=zh ((hF _ rfl).up bx.2.1);have F1':=zh ((F1.out.up hb).up bx.2.1);have B2:=zh (yac (yac B1.out hb) bx.2.1);have L2:=zh ((L1.out.below hb S1.out).below bx.2.1 (Nat.lt_of_lt_of_le S1.out hb.size));obtain⟨p0,p1,p2⟩:=L2.out.cells;clear hb hF bx))
    | (go_at_call 127;((with_reducible refine(R1 _ (Below.refl _ _)).mono ?_);rintro e w1 ⟨y,A1,l1,c1,A2,l2,c2,rfl,hb,hF⟩;have bx:=ya1 w1 (.bool y) (.slice A1 l1 c1) (.slice A2 l2 c2) 178;have F1:=zh ((hF _ rfl).up bx.2.1);have B1:=zh (yac hb bx.2.1);have L1:=zh bx.1;have S1:=zh bx.2.2;clear hb hF bx)))
   go_ret2
   exact⟨by rw[HX.out];rfl,B3.out⟩
theorem yb8 (S:ByteArray) (hs:S.size<=9223372036854775807) (w:World) (hw:Wf w) :
  Calls Tryz.prog 133 #[.string S] w fun e w'=>e=.returned (.bool (num? (bl S)).isSome)/\Below w.heap.size w w':=by
 have R1:=ydn S hs w hw
 clear hs hw
 generalize num? (bl S)=o at *
 go_enter Tryz.func133,Tryz.ntmps133
 go_wp2_with (go_at_call 127;((with_reducible refine R1.mono ?_);rintro e w1 ⟨y,A1,l1,c1,A2,l2,c2,rfl,hb,hF⟩;have bx:=ya1 w1 (.bool y) (.slice A1 l1 c1) (.slice A2 l2 c2) 178;have B0:=zh hb;have B1:=zh (yac hb bx.2.1);clear hb hF bx))
 go_ret
 first|exact⟨rfl,B0.out⟩|exact⟨rfl,B1.out⟩
theorem yo5:∀ k,val (49::List.replicate k 48)=10 ^ k:=by
 intro k
 have:(49:UInt8)::List.replicate k 48=[49]++pad k 0:=by rw[yf4];rfl
 rw[this,yeh,yeb,ylh k 0 (Nat.pow_pos (by decide))]
 show 1*10 ^ k+0=_
 omega
theorem ynu (k:Nat):allD (49::List.replicate k 48)=true:=by
 have:(49:UInt8)::List.replicate k 48=[49]++pad k 0:=by rw[yf4];rfl
 rw[this,yat,yh1];rfl
theorem K0.b {w w1:World} (h:K0 w w1):Below w.heap.size w w1:=h.2.1
theorem K0.cells {w w1:World} (h:K0 w w1):w1.cell? ⟨w.heap.size,0,none⟩=some (.bool false)/\w1.cell? ⟨w.heap.size,1,none⟩=some (.slice none 0 0)/\w1.cell? ⟨w.heap.size,2,none⟩=some (.slice none 0 0):=h.1.cells
theorem K0.frozen {w w1:World} (h:K0 w w1):w1.frozen? ⟨w.heap.size,0,none⟩=false/\w1.frozen? ⟨w.heap.size,1,none⟩=false/\w1.frozen? ⟨w.heap.size,2,none⟩=false:=h.1.frozen
theorem K0.give {w w1:World} {q:Rat} {A A':Option Addr} {c c':Nat} (h:K0 w w1) (n1:Nt .u32 w1 w1.heap.size A c (top q)) (n2:Nt .u32 w1 w1.heap.size A' c' q.den) :
  ReadQ (some q) w (.returned (.tuple #[.agg #[.bool (ngt q),.slice A (nd (top q)) c,.slice A' (nd q.den) c'],.bool true])) (put3 w1 w.heap.size (.bool (ngt q)) (.slice A (nd (top q)) c) (.slice A' (nd q.den) c')):=
 ⟨_,_,_,_,_,_,_,rfl,yaj h.2.1 (Nat.le_refl _),fun q' h'=>by injection h' with h';subst h';exact⟨A,c,A',c',rfl,n1.put3 h.1 rfl rfl rfl,n2.put3 h.1 rfl rfl rfl⟩⟩
theorem K0.giveN {w w1:World} (h:K0 w w1):ReadQ none w (.returned (.tuple #[.agg #[.bool false,.slice none 0 0,.slice none 0 0],.bool false])) (put3 w1 w.heap.size (.bool false) (.slice none 0 0) (.slice none 0 0)):=
 ⟨_,_,_,_,_,_,_,rfl,yaj h.2.1 (Nat.le_refl _),fun q' h'=>by cases h'⟩
theorem yqr (S:ByteArray) (w:World) (hw:Wf w) (P Q R:ByteArray) (neg:Bool)
  (CP:∀ w,Calls Tryz.prog 34 #[.string S,.string ⟨#[45]⟩] w fun e w'=>e=.returned (.tuple #[.string R,.bool neg])/\w=w')
  (CT:∀ w,Calls Tryz.prog 93 #[.string R,.string ⟨#[47]⟩] w fun e w'=>e=.returned (.tuple #[.string P,.string Q,.bool true])/\∃ n,w'=w.drewN n)
  (hP:P.size<=1000) (hQ:Q.size<=1000) (h1:(decide (bl P≠[])&&allD (bl P))=false) :
  Calls Tryz.prog 198 #[.string S] w (ReadQ none w):=by
 have AP:=fun w=>ybq P (by omega) w
 have AQ:=fun w=>ybq Q (by omega) w
 have DQ:=fun w' (hb:Below w.heap.size w w')=>ya4 Q (by omega) w' (hw.up hb)
 rw[h1] at AP
 clear h1 hP hQ hw
 have k0:=zh (K0.start w)
 have k1:=zh (k0.out.alloc (.cells #[.int .u32 1] 226))
 have hW:(w.alloc (.cells #[.bool false,.slice none 0 0,.slice none 0 0] 178)).heap.size=w.heap.size+1:=by simp
 have N1:=zh (Nt.one (w.alloc (.cells #[.bool false,.slice none 0 0,.slice none 0 0] 178)) 226)
 rw[hW] at N1
 clear hW
 go_enter Tryz.func198,Tryz.ntmps198
 go_wp2_with (first
  | (go_at_call 233;(with_reducible refine(AP _).mono ?_);rintro e w' ⟨rfl,hb⟩;have ke:=zh (kd.out.up hb);obtain⟨r0,r1,r2⟩:=ke.out.cells;obtain⟨f0,f1,f2⟩:=ke.out.frozen;clear hb)
  | (go_at_call 204;(with_reducible refine(DQ _ kc.out.b).mono ?_);rintro e w' ⟨A1,n1,c1,o1,rfl,hF,hb,_,_⟩;have kd:=zh (kc.out.up hb);clear hF hb)
  | (go_at_call 93;((with_reducible refine(CT _).mono ?_);rintro e w' ⟨rfl,n,rfl⟩;have kc:=zh (k1.out.drewN n)))
  | (go_at_call 34;refine(CP _).mono ?_;rintro e w' ⟨rfl,rfl⟩))
 exact bodyPost_ret (v:=.tuple #[.agg #[.bool false,.slice none 0 0,.slice none 0 0],.bool false]) (by simp[results,Tryz.results198,go_sem,r0,r1,r2]) rfl ke.out.giveN
theorem yqv (S:ByteArray) (w:World) (hw:Wf w) (P Q R:ByteArray) (neg:Bool)
  (CP:∀ w,Calls Tryz.prog 34 #[.string S,.string ⟨#[45]⟩] w fun e w'=>e=.returned (.tuple #[.string R,.bool neg])/\w=w')
  (CT:∀ w,Calls Tryz.prog 93 #[.string R,.string ⟨#[47]⟩] w fun e w'=>e=.returned (.tuple #[.string P,.string Q,.bool true])/\∃ n,w'=w.drewN n)
  (hP:P.size<=1000) (hQ:Q.size<=1000) (h1:(decide (bl P≠[])&&allD (bl P))=true) (h2:(decide (bl Q≠[])&&allD (bl Q))=false) :
  Calls Tryz.prog 198 #[.string S] w (ReadQ none w):=by
 have AP:=fun w=>ybq P (by omega) w
 have AQ:=fun w=>ybq Q (by omega) w
 have DQ:=fun w' (hb:Below w.heap.size w w')=>ya4 Q (by omega) w' (hw.up hb)
 rw[h1] at AP
 rw[h2] at AQ
 clear h1 h2 hP hQ hw
 have k0:=zh (K0.start w)
 have k1:=zh (k0.out.alloc (.cells #[.int .u32 1] 226))
 have hW:(w.alloc (.cells #[.bool false,.slice none 0 0,.slice none 0 0] 178)).heap.size=w.heap.size+1:=by simp
 have N1:=zh (Nt.one (w.alloc (.cells #[.bool false,.slice none 0 0,.slice none 0 0] 178)) 226)
 rw[hW] at N1
 clear hW
 go_enter Tryz.func198,Tryz.ntmps198
 go_wp2_with (first
  | (go_at_call 233;(with_reducible refine(AQ _).mono ?_);rintro e w' ⟨rfl,hb⟩;have kf:=zh (ke.out.up hb);obtain⟨r0,r1,r2⟩:=kf.out.cells;obtain⟨f0,f1,f2⟩:=kf.out.frozen;clear hb)
  | (go_at_call 233;(with_reducible refine(AP _).mono ?_);rintro e w' ⟨rfl,hb⟩;have ke:=zh (kd.out.up hb);clear hb)
  | (go_at_call 204;(with_reducible refine(DQ _ kc.out.b).mono ?_);rintro e w' ⟨A1,n1,c1,o1,rfl,hF,hb,_,_⟩;have kd:=zh (kc.out.up hb);clear hF hb)
  | (go_at_call 93;((with_reducible refine(CT _).mono ?_);rintro e w' ⟨rfl,n,rfl⟩;have kc:=zh (k1.out.drewN n)))
  | (go_at_call 34;refine(CP _).mono ?_;rintro e w' ⟨rfl,rfl⟩))
 exact bodyPost_ret (v:=.tuple #[.agg #[.bool false,.slice none 0 0,.slice none 0 0],.bool false]) (by simp[results,Tryz.results198,go_sem,r0,r1,r2]) rfl kf.out.giveN
theorem yr9 (S:ByteArray) (w:World) (hw:Wf w) (P Q R:ByteArray) (neg:Bool)
  (CP:∀ w,Calls Tryz.prog 34 #[.string S,.string ⟨#[45]⟩] w fun e w'=>e=.returned (.tuple #[.string R,.bool neg])/\w=w')
  (CT:∀ w,Calls Tryz.prog 93 #[.string R,.string ⟨#[47]⟩] w fun e w'=>e=.returned (.tuple #[.string P,.string Q,.bool true])/\∃ n,w'=w.drewN n)
  (hP:P.size<=1000) (hQ:Q.size<=1000) (h1:(decide (bl P≠[])&&allD (bl P))=true) (h2:(decide (bl Q≠[])&&allD (bl Q))=true) (h3:val (bl Q)=0) :
  Calls Tryz.prog 198 #[.string S] w (ReadQ none w):=by
 have AP:=fun w=>ybq P (by omega) w
 have AQ:=fun w=>ybq Q (by omega) w
 have DQ:=fun w' (hb:Below w.heap.size w w')=>ya4 Q (by omega) w' (hw.up hb)
 have HDQ:=zh (show allD (bl Q)=true by simp at h2;exact h2.2)
 have HDP:=zh (show allD (bl P)=true by simp at h1;exact h1.2)
 rw[h1] at AP
 rw[h2] at AQ
 have ZQ:=fun A c w=>ye3 A c (val (bl Q)) w
 rw[decide_eq_true h3] at ZQ
 clear h1 h2 h3 hP hQ hw
 have k0:=zh (K0.start w)
 have k1:=zh (k0.out.alloc (.cells #[.int .u32 1] 226))
 have hW:(w.alloc (.cells #[.bool false,.slice none 0 0,.slice none 0 0] 178)).heap.size=w.heap.size+1:=by simp
 have N1:=zh (Nt.one (w.alloc (.cells #[.bool false,.slice none 0 0,.slice none 0 0] 178)) 226)
 rw[hW] at N1
 clear hW
 go_enter Tryz.func198,Tryz.ntmps198
 go_wp2_with (first
  | (go_at_call 207;((with_reducible refine(ZQ _ _ _).mono ?_);rintro e w' ⟨rfl,rfl⟩;obtain⟨r0,r1,r2⟩:=kf.out.cells;obtain⟨f0,f1,f2⟩:=kf.out.frozen))
  | (go_at_call 233;((with_reducible refine(AQ _).mono ?_);rintro e w' ⟨rfl,hb⟩;have kf:=zh (ke.out.up hb);have NF:=zh (NE.out.up hb);clear hb))
  | (go_at_call 233;((with_reducible refine(AP _).mono ?_);rintro e w' ⟨rfl,hb⟩;have ke:=zh (kd.out.up hb);have NE:=zh (ND.out.up hb);clear hb))
  | (go_at_call 204;((with_reducible refine(DQ _ kc.out.b).mono ?_);rintro e w' hdg;obtain⟨A1,c1,rfl,hN,hb⟩:=hdg.num HDQ.out;have kd:=zh (kc.out.up hb);have ND:=zh hN;clear hdg hN hb))
  | (go_at_call 93;((with_reducible refine(CT _).mono ?_);rintro e w' ⟨rfl,n,rfl⟩;have kc:=zh (k1.out.drewN n)))
  | (go_at_call 34;refine(CP _).mono ?_;rintro e w' ⟨rfl,rfl⟩))
 exact bodyPost_ret (v:=.tuple #[.agg #[.bool false,.slice none 0 0,.slice none 0 0],.bool false]) (by simp[results,Tryz.results198,go_sem,r0,r1,r2]) rfl kf.out.giveN
theorem yrz (S:ByteArray) (w:World) (hw:Wf w) (P Q R:ByteArray) (neg:Bool)
  (CP:∀ w,Calls Tryz.prog 34 #[.string S,.string ⟨#[45]⟩] w fun e w'=>e=.returned (.tuple #[.string R,.bool neg])/\w=w')
  (CT:∀ w,Calls Tryz.prog 93 #[.string R,.string ⟨#[47]⟩] w fun e w'=>e=.returned (.tuple #[.string P,.string Q,.bool true])/\∃ n,w'=w.drewN n)
  (hP:P.size<=1000) (hQ:Q.size<=1000) (h1:(decide (bl P≠[])&&allD (bl P))=true) (h2:(decide (bl Q≠[])&&allD (bl Q))=true) (h3:val (bl Q)≠0) :
  Calls Tryz.prog 198 #[.string S] w (ReadQ (some (mkRat (sg neg (val (bl P))) (val (bl Q)))) w):=by
 have AP:=fun w=>ybq P (by omega) w
 have AQ:=fun w=>ybq Q (by omega) w
 have DQ:=fun w' (hb:Below w.heap.size w w')=>ya4 Q (by omega) w' (hw.up hb)
 have HDQ:=zh (show allD (bl Q)=true by simp at h2;exact h2.2)
 have HDP:=zh (show allD (bl P)=true by simp at h1;exact h1.2)
 rw[h1] at AP
 rw[h2] at AQ
 have DP:=fun w' (hb:Below w.heap.size w w')=>ya4 P (by omega) w' (hw.up hb)
 have ZQ:=fun A c w=>ye3 A c (val (bl Q)) w
 rw[decide_eq_false h3] at ZQ
 have n1:=ybj _ HDP.out
 have n2:=ybj _ HDQ.out
 rw[yag] at n1 n2
 have MK:=fun w' A A' c c' h h'=>yda neg A A' c c' (val (bl P)) (val (bl Q)) h3 w' h h' (by omega) (by omega)
 clear h1 h2 h3 hP hQ hw n1 n2
 generalize mkRat (sg neg (val (bl P))) (val (bl Q))=q at *
 have k0:=zh (K0.start w)
 have k1:=zh (k0.out.alloc (.cells #[.int .u32 1] 226))
 have hW:(w.alloc (.cells #[.bool false,.slice none 0 0,.slice none 0 0] 178)).heap.size=w.heap.size+1:=by simp
 have N1:=zh (Nt.one (w.alloc (.cells #[.bool false,.slice none 0 0,.slice none 0 0] 178)) 226)
 rw[hW] at N1
 clear hW
 go_enter Tryz.func198,Tryz.ntmps198
 go_wp2_with (first
  | (go_at_call 171;((with_reducible refine(MK _ _ _ _ _ NP.out NG.out).mono ?_);rintro e w' ⟨v,rfl,⟨A7,c7,A8,c8,rfl,n7,n8⟩,hb⟩;have km:=zh (kg.out.up hb);have N7:=zh n7;have N8:=zh n8;obtain⟨r0,r1,r2⟩:=km.out.cells;obtain⟨f0,f1,f2⟩:=km.out.frozen;clear n7 n8 hb))
  | (go_at_call 204;((with_reducible refine(DP _ kf.out.b).mono ?_);rintro e w' hdg;obtain⟨A2,c2,rfl,hN,hb⟩:=hdg.num HDP.out;have kg:=zh (kf.out.up hb);have NP:=zh hN;have NG:=zh (NF.out.up hb);clear hdg hN hb))
  | (go_at_call 207;((with_reducible refine(ZQ _ _ _).mono ?_);rintro e w' ⟨rfl,rfl⟩))
  | (go_at_call 233;((with_reducible refine(AQ _).mono ?_);rintro e w' ⟨rfl,hb⟩;have kf:=zh (ke.out.up hb);have NF:=zh (NE.out.up hb);clear hb))
  | (go_at_call 233;((with_reducible refine(AP _).mono ?_);rintro e w' ⟨rfl,hb⟩;have ke:=zh (kd.out.up hb);have NE:=zh (ND.out.up hb);clear hb))
  | (go_at_call 204;((with_reducible refine(DQ _ kc.out.b).mono ?_);rintro e w' hdg;obtain⟨A1,c1,rfl,hN,hb⟩:=hdg.num HDQ.out;have kd:=zh (kc.out.up hb);have ND:=zh hN;clear hdg hN hb))
  | (go_at_call 93;((with_reducible refine(CT _).mono ?_);rintro e w' ⟨rfl,n,rfl⟩;have kc:=zh (k1.out.drewN n)))
  | (go_at_call 34;refine(CP _).mono ?_;rintro e w' ⟨rfl,rfl⟩))
 refine bodyPost_ret (v:=.tuple #[.agg #[.bool (ngt q),.slice A7 (nd (top q)) c7,.slice A8 (nd q.den) c8],.bool true]) (by simp[results,Tryz.results198,go_sem,r0,r1,r2]) rfl ?_
 exact km.out.give N7.out N8.out
theorem ysg (S:ByteArray) (w:World) (_hw:Wf w) (P Q R:ByteArray) (neg:Bool)
  (CP:∀ w,Calls Tryz.prog 34 #[.string S,.string ⟨#[45]⟩] w fun e w'=>e=.returned (.tuple #[.string R,.bool neg])/\w=w')
  (CT:∀ w,Calls Tryz.prog 93 #[.string R,.string ⟨#[47]⟩] w fun e w'=>e=.returned (.tuple #[.string P,.string Q,.bool false])/\∃ n,w'=w.drewN n)
  (F B:ByteArray) (f2:Bool) (CD:∀ w,Calls Tryz.prog 93 #[.string R,.string ⟨#[46]⟩] w fun e w'=>e=.returned (.tuple #[.string F,.string B,.bool f2])/\∃ n,w'=w.drewN n)
  (hF:F.size<=1000) (hB:B.size<=1000) (h1:(decide (bl F≠[])&&allD (bl F))=false) :
  Calls Tryz.prog 198 #[.string S] w (ReadQ none w):=by
 have AF:=fun w=>ybq F (by omega) w
 have AB:=fun w=>ybq B (by omega) w
 rw[h1] at AF
 clear h1 hF hB _hw AB
 have k0:=zh (K0.start w)
 have k1:=zh (k0.out.alloc (.cells #[.int .u32 1] 226))
 have hW:(w.alloc (.cells #[.bool false,.slice none 0 0,.slice none 0 0] 178)).heap.size=w.heap.size+1:=by simp
 have N1:=zh (Nt.one (w.alloc (.cells #[.bool false,.slice none 0 0,.slice none 0 0] 178)) 226)
 rw[hW] at N1
 clear hW
 go_enter Tryz.func198,Tryz.ntmps198
 go_wp2_with (first
  | (go_at_call 233;(with_reducible refine(AF _).mono ?_);rintro e w' ⟨rfl,hb⟩;have ke:=zh (kd.out.up hb);obtain⟨r0,r1,r2⟩:=ke.out.cells;obtain⟨f0,f1,f2⟩:=ke.out.frozen;clear hb)
  | (go_at_call 93;(with_reducible refine(CD _).mono ?_);rintro e w' ⟨rfl,n2,rfl⟩;have kd:=zh (k1.out.drewN (n+n2)))
  | (go_at_call 93;((with_reducible refine(CT _).mono ?_);rintro e w' ⟨rfl,n,rfl⟩;have kc:=zh (k1.out.drewN n)))
  | (go_at_call 34;refine(CP _).mono ?_;rintro e w' ⟨rfl,rfl⟩))
 exact bodyPost_ret (v:=.tuple #[.agg #[.bool false,.slice none 0 0,.slice none 0 0],.bool false]) (by simp[results,Tryz.results198,go_sem,r0,r1,r2]) rfl ke.out.giveN
theorem yrr (S:ByteArray) (w:World) (_hw:Wf w) (P Q R:ByteArray) (neg:Bool)
  (CP:∀ w,Calls Tryz.prog 34 #[.string S,.string ⟨#[45]⟩] w fun e w'=>e=.returned (.tuple #[.string R,.bool neg])/\w=w')
  (CT:∀ w,Calls Tryz.prog 93 #[.string R,.string ⟨#[47]⟩] w fun e w'=>e=.returned (.tuple #[.string P,.string Q,.bool false])/\∃ n,w'=w.drewN n)
  (F B:ByteArray) (CD:∀ w,Calls Tryz.prog 93 #[.string R,.string ⟨#[46]⟩] w fun e w'=>e=.returned (.tuple #[.string F,.string B,.bool true])/\∃ n,w'=w.drewN n)
  (hF:F.size<=1000) (hB:B.size<=1000) (h1:(decide (bl F≠[])&&allD (bl F))=true) (h2:(decide (bl B≠[])&&allD (bl B))=false) :
  Calls Tryz.prog 198 #[.string S] w (ReadQ none w):=by
 have AF:=fun w=>ybq F (by omega) w
 have AB:=fun w=>ybq B (by omega) w
 rw[h1] at AF
 rw[h2] at AB
 clear h1 h2 hF hB _hw
 have k0:=zh (K0.start w)
 have k1:=zh (k0.out.alloc (.cells #[.int .u32 1] 226))
 have hW:(w.alloc (.cells #[.bool false,.slice none 0 0,.slice none 0 0] 178)).heap.size=w.heap.size+1:=by simp
 have N1:=zh (Nt.one (w.alloc (.cells #[.bool false,.slice none 0 0,.slice none 0 0] 178)) 226)
 rw[hW] at N1
 clear hW
 go_enter Tryz.func198,Tryz.ntmps198
 go_wp2_with (first
  | (go_at_call 233;(with_reducible refine(AB _).mono ?_);rintro e w' ⟨rfl,hb⟩;have kf:=zh (ke.out.up hb);obtain⟨r0,r1,r2⟩:=kf.out.cells;obtain⟨f0,f1,f2⟩:=kf.out.frozen;clear hb)
  | (go_at_call 233;(with_reducible refine(AF _).mono ?_);rintro e w' ⟨rfl,hb⟩;have ke:=zh (kd.out.up hb);clear hb)
  | (go_at_call 93;(with_reducible refine(CD _).mono ?_);rintro e w' ⟨rfl,n2,rfl⟩;have kd:=zh (k1.out.drewN (n+n2)))
  | (go_at_call 93;((with_reducible refine(CT _).mono ?_);rintro e w' ⟨rfl,n,rfl⟩;have kc:=zh (k1.out.drewN n)))
  | (go_at_call 34;refine(CP _).mono ?_;rintro e w' ⟨rfl,rfl⟩))
 exact bodyPost_ret (v:=.tuple #[.agg #[.bool false,.slice none 0 0,.slice none 0 0],.bool false]) (by simp[results,Tryz.results198,go_sem,r0,r1,r2]) rfl kf.out.giveN
theorem yq3 (S:ByteArray) (w:World) (hw:Wf w) (P Q R:ByteArray) (neg:Bool)
  (CP:∀ w,Calls Tryz.prog 34 #[.string S,.string ⟨#[45]⟩] w fun e w'=>e=.returned (.tuple #[.string R,.bool neg])/\w=w')
  (CT:∀ w,Calls Tryz.prog 93 #[.string R,.string ⟨#[47]⟩] w fun e w'=>e=.returned (.tuple #[.string P,.string Q,.bool false])/\∃ n,w'=w.drewN n)
  (F B:ByteArray) (CD:∀ w,Calls Tryz.prog 93 #[.string R,.string ⟨#[46]⟩] w fun e w'=>e=.returned (.tuple #[.string F,.string B,.bool false])/\∃ n,w'=w.drewN n)
  (hF:F.size<=1000) (hB:B.size<=1000) (hBe:B=⟨#[]⟩) (h1:(decide (bl F≠[])&&allD (bl F))=true) :
  Calls Tryz.prog 198 #[.string S] w (ReadQ (some (mkRat (sg neg (val (bl F))) 1)) w):=by
 have AF:=fun w=>ybq F (by omega) w
 have HDF:=zh (show allD (bl (F++B))=true by simp at h1;rw[ydq,yat,h1.2,hBe];rfl)
 rw[h1] at AF
 have hv:bl (F++B)=bl F:=by rw[ydq,hBe];show bl F++[]=bl F;simp
 have hsz:(F++B).size<=2000:=by rw[<- yag,hv,yag];omega
 have DF:=fun w' (hb:Below w.heap.size w w')=>ya4 (F++B) (by omega) w' (hw.up hb)
 have n1:=ybj _ HDF.out
 rw[yag] at n1
 have MK:=fun w' A A' c c' h h'=>yda neg A A' c c' (val (bl (F++B))) 1 (by decide) w' h h' (by omega) (by rw[ye8];omega)
 rw[ye8] at MK
 have hFs:=hF
 have hBs:B.size<=1000:=hB
 rw[<- hv]
 clear h1 hBe hF hB hw hv n1 hsz
 generalize mkRat (sg neg (val (bl (F++B)))) 1=q at *
 have k0:=zh (K0.start w)
 have k1:=zh (k0.out.alloc (.cells #[.int .u32 1] 226))
 have hW:(w.alloc (.cells #[.bool false,.slice none 0 0,.slice none 0 0] 178)).heap.size=w.heap.size+1:=by simp
 have N1:=zh (Nt.one (w.alloc (.cells #[.bool false,.slice none 0 0,.slice none 0 0] 178)) 226)
 rw[hW] at N1
 clear hW
 go_enter Tryz.func198,Tryz.ntmps198
 go_wp2_with (first
  | (go_at_call 171;((with_reducible refine(MK _ _ _ _ _ NP.out M4.out).mono ?_);rintro e w' ⟨v,rfl,⟨A7,c7,A8,c8,rfl,n7,n8⟩,hb⟩;have km:=zh (kg.out.up hb);have N7:=zh n7;have N8:=zh n8;obtain⟨r0,r1,r2⟩:=km.out.cells;obtain⟨f0,f1,f2⟩:=km.out.frozen;clear n7 n8 hb))
  | (go_at_call 204;((with_reducible refine(DF _ ke.out.b).mono ?_);rintro e w' hdg;obtain⟨A2,c2,rfl,hN,hb⟩:=hdg.num HDF.out;have kg:=zh (ke.out.up hb);have NP:=zh hN;have M4:=zh (M3.out.up hb);clear hdg hN hb))
  | (go_at_call 233;((with_reducible refine(AF _).mono ?_);rintro e w' ⟨rfl,hb⟩;have ke:=zh (kd.out.up hb);have M3:=zh (M2.out.up hb);clear hb))
  | (go_at_call 93;(with_reducible refine(CD _).mono ?_);rintro e w' ⟨rfl,n2,rfl⟩;have M2:=zh (N1.out.drewN (n+n2));have kd:=zh (k1.out.drewN (n+n2)))
  | (go_at_call 93;((with_reducible refine(CT _).mono ?_);rintro e w' ⟨rfl,n,rfl⟩;have kc:=zh (k1.out.drewN n)))
  | (go_at_call 34;refine(CP _).mono ?_;rintro e w' ⟨rfl,rfl⟩))
 refine bodyPost_ret (v:=.tuple #[.agg #[.bool (ngt q),.slice A7 (nd (top q)) c7,.slice A8 (nd q.den) c8],.bool true]) (by simp[results,Tryz.results198,go_sem,r0,r1,r2]) rfl ?_
 exact km.out.give N7.out N8.out
theorem yr7 (S:ByteArray) (w:World) (hw:Wf w) (P Q R:ByteArray) (neg:Bool)
  (CP:∀ w,Calls Tryz.prog 34 #[.string S,.string ⟨#[45]⟩] w fun e w'=>e=.returned (.tuple #[.string R,.bool neg])/\w=w')
  (CT:∀ w,Calls Tryz.prog 93 #[.string R,.string ⟨#[47]⟩] w fun e w'=>e=.returned (.tuple #[.string P,.string Q,.bool false])/\∃ n,w'=w.drewN n)
  (F B:ByteArray) (CD:∀ w,Calls Tryz.prog 93 #[.string R,.string ⟨#[46]⟩] w fun e w'=>e=.returned (.tuple #[.string F,.string B,.bool true])/\∃ n,w'=w.drewN n)
  (hF:F.size<=1000) (hB:B.size<=1000) (h1:(decide (bl F≠[])&&allD (bl F))=true) (h2:(decide (bl B≠[])&&allD (bl B))=true) :
  Calls Tryz.prog 198 #[.string S] w (ReadQ (some (mkRat (sg neg (val (bl F++bl B))) (10 ^ B.size))) w):=by
 have AF:=fun w=>ybq F (by omega) w
 have AB:=fun w=>ybq B (by omega) w
 have HDF:=zh (show allD (bl (F++B))=true by simp at h1 h2;rw[ydq,yat,h1.2,h2.2];rfl)
 rw[h1] at AF
 rw[h2] at AB
 have hsz:(F++B).size<=2000:=by rw[<- yag,ydq,List.length_append,yag,yag];omega
 have DF:=fun w' (hb:Below w.heap.size w w')=>ya4 (F++B) (by omega) w' (hw.up hb)
 have n1:=ybj _ HDF.out
 rw[yag] at n1
 have RP:=fun w=>Tryz.strings_Repeat ⟨#[48]⟩ B.size w (by omega) (by show 1*_<=_;omega)
 obtain⟨Z,hZ⟩:∃ Z:ByteArray,Z=⟨(Lib.repeatL (⟨#[48]⟩:ByteArray).data.toList B.size).toArray⟩:=⟨_,rfl⟩
 rw[<- hZ] at RP
 have hZb:bl Z=List.replicate B.size 48:=by rw[hZ,bl_mk];exact yg2 _
 have hZs:Z.size<=1000:=by rw[<- yag,hZb];simp;exact hB
 have h1Z:bl ((⟨#[49]⟩:ByteArray)++Z)=49::List.replicate B.size 48:=by rw[ydq,hZb];rfl
 have hs1:((⟨#[49]⟩:ByteArray)++Z).size<=1001:=by rw[<- yag,h1Z];simp;omega
 have HD1:=zh (show allD (bl ((⟨#[49]⟩:ByteArray)++Z))=true by rw[h1Z];exact ynu _)
 have D1:=fun w' (hb:Below w.heap.size w w')=>ya4 ((⟨#[49]⟩:ByteArray)++Z) (by omega) w' (hw.up hb)
 have n2:=ybj _ HD1.out
 rw[yag] at n2
 have hv1:val (bl ((⟨#[49]⟩:ByteArray)++Z))=10 ^ B.size:=by rw[h1Z];exact yo5 _
 have hne:val (bl ((⟨#[49]⟩:ByteArray)++Z))≠0:=by rw[hv1];exact Nat.pos_iff_ne_zero.1 (Nat.pow_pos (by decide))
 have MK:=fun w' A A' c c' h h'=>yda neg A A' c c' (val (bl (F++B))) (val (bl ((⟨#[49]⟩:ByteArray)++Z))) hne w' h h' (by omega) (by omega)
 rw[<- ydq,<- hv1]
 clear h1 h2 hw n1 n2 hsz hZ hZb h1Z hs1 hv1 hne
 generalize mkRat (sg neg (val (bl (F++B)))) (val (bl ((⟨#[49]⟩:ByteArray)++Z)))=q at *
 have k0:=zh (K0.start w)
 have k1:=zh (k0.out.alloc (.cells #[.int .u32 1] 226))
 have hW:(w.alloc (.cells #[.bool false,.slice none 0 0,.slice none 0 0] 178)).heap.size=w.heap.size+1:=by simp
 have N1:=zh (Nt.one (w.alloc (.cells #[.bool false,.slice none 0 0,.slice none 0 0] 178)) 226)
 rw[hW] at N1
 clear hW
 go_enter Tryz.func198,Tryz.ntmps198
 go_wp2_with (first
  | (go_at_call 171;((with_reducible refine(MK _ _ _ _ _ NP.out NE.out).mono ?_);rintro e w' ⟨v,rfl,⟨A7,c7,A8,c8,rfl,n7,n8⟩,hb⟩;have km:=zh (ki.out.up hb);have N7:=zh n7;have N8:=zh n8;obtain⟨r0,r1,r2⟩:=km.out.cells;obtain⟨f0,f1,f2⟩:=km.out.frozen;clear n7 n8 hb))
  | (go_at_call 204;((with_reducible refine(DF _ kh.out.b).mono ?_);rintro e w' hdg;obtain⟨A2,c2,rfl,hN,hb⟩:=hdg.num HDF.out;have ki:=zh (kh.out.up hb);have NP:=zh hN;have NE:=zh (ND.out.up hb);clear hdg hN hb))
  | (go_at_call 204;((with_reducible refine(D1 _ kg.out.b).mono ?_);rintro e w' hdg;obtain⟨A1,c1,rfl,hN,hb⟩:=hdg.num HD1.out;have kh:=zh (kg.out.up hb);have ND:=zh hN;clear hdg hN hb))
  | (go_at_call 234;((with_reducible refine(RP _).mono ?_);rintro e w' ⟨rfl,hb⟩;have kg:=zh (kf.out.up hb);clear hb))
  | (go_at_call 233;((with_reducible refine(AB _).mono ?_);rintro e w' ⟨rfl,hb⟩;have kf:=zh (ke.out.up hb);clear hb))
  | (go_at_call 233;((with_reducible refine(AF _).mono ?_);rintro e w' ⟨rfl,hb⟩;have ke:=zh (kd.out.up hb);clear hb))
  | (go_at_call 93;(with_reducible refine(CD _).mono ?_);rintro e w' ⟨rfl,n2,rfl⟩;have kd:=zh (k1.out.drewN (n+n2)))
  | (go_at_call 93;((with_reducible refine(CT _).mono ?_);rintro e w' ⟨rfl,n,rfl⟩;have kc:=zh (k1.out.drewN n)))
  | (go_at_call 34;refine(CP _).mono ?_;rintro e w' ⟨rfl,rfl⟩))
 refine bodyPost_ret (v:=.tuple #[.agg #[.bool (ngt q),.slice A7 (nd (top q)) c7,.slice A8 (nd q.den) c8],.bool true]) (by simp[results,Tryz.results198,go_sem,r0,r1,r2]) rfl ?_
 exact km.out.give N7.out N8.out
theorem yhf {R P Q:ByteArray} {c:UInt8} {f:Bool} (h1:f=true->bl R=bl P++c::bl Q/\c ∉ bl P) (h2:f=false->P=R/\Q=⟨#[]⟩/\c ∉ bl R):P.size<=R.size/\Q.size<=R.size:=by
 cases f
 ·obtain⟨rfl,rfl,_⟩:=h2 rfl
  exact⟨Nat.le_refl _,Nat.zero_le _⟩
 ·have:=congrArg List.length (h1 rfl).1
  rw[List.length_append,List.length_cons,yag,yag,yag] at this
  omega
theorem allb {l:List UInt8}:(decide (l≠[])&&allD l)=true ↔ l≠[]/\allD l=true:=by simp
theorem yog (S:ByteArray) (hs:S.size<=1000) (w:World) (hw:Wf w):Calls Tryz.prog 198 #[.string S] w (ReadQ (frm (bl S)) w):=by
 have hR:(⟨(body (bl S)).toArray⟩:ByteArray).size<=1000:=by
  rw[<- yag]
  have:=yfc (bl S)
  rw[yag] at this
  exact Nat.le_trans this hs
 obtain⟨P,Q,f,CT,h1,h2⟩:=ye7 ⟨(body (bl S)).toArray⟩ 47 (by omega)
 obtain⟨s1,s2⟩:=yhf h1 h2
 have CP:=ycc S
 cases f
 ·obtain⟨F,B,f2,CD,g1,g2⟩:=ye7 ⟨(body (bl S)).toArray⟩ 46 (by omega)
  obtain⟨s3,s4⟩:=yhf g1 g2
  obtain⟨_,_,h47⟩:=h2 rfl
  cases b1:(decide (bl F≠[])&&allD (bl F))
  ·have hno:frm (bl S)=none:=by
    have hb1:¬(bl F≠[]/\allD (bl F)=true):=fun h=>by rw[allb.2 h] at b1;cases b1
    cases f2
    ·obtain⟨e1,_,h46⟩:=g2 rfl
     rw[ylg h47 h46,if_neg]
     intro h
     refine hb1 ?_
     rw[e1];exact h
    ·rw[yet (s:=46) (g1 rfl).1 yd0,if_neg]
     exact fun h=>hb1 ⟨h.1,h.2.1⟩
   rw[hno]
   exact ysg S w hw P Q _ _ CP CT F B f2 CD (by omega) (by omega) b1
  ·cases f2
   ·obtain⟨e1,e2,h46⟩:=g2 rfl
    have hF:bl F=body (bl S):=by rw[e1];rfl
    have hb:=allb.1 b1
    rw[hF] at hb
    rw[ylg h47 h46,if_pos hb,<- hF]
    exact yq3 S w hw P Q _ _ CP CT F B CD (by omega) (by omega) e2 b1
   ·have e:=(g1 rfl).1
    cases b2:(decide (bl B≠[])&&allD (bl B))
    ·have hno:frm (bl S)=none:=by
      rw[yet (s:=46) e yd0,if_neg]
      exact fun h=>by rw[allb.2 h.2.2] at b2;cases b2
     rw[hno]
     exact yrr S w hw P Q _ _ CP CT F B CD (by omega) (by omega) b1 b2
    ·have h3:=allb.1 b1
     have h4:=allb.1 b2
     rw[yet (s:=46) e yd0,if_pos ⟨h3.1,h3.2,h4.1,h4.2⟩,if_pos rfl,yag]
     exact yr7 S w hw P Q _ _ CP CT F B CD (by omega) (by omega) b1 b2
 ·have e:=(h1 rfl).1
  cases b1:(decide (bl P≠[])&&allD (bl P))
  ·have hno:frm (bl S)=none:=by
    rw[yet (s:=47) e yc7,if_neg]
    exact fun h=>by rw[allb.2 ⟨h.1,h.2.1⟩] at b1;cases b1
   rw[hno]
   exact yqr S w hw P Q _ _ CP CT (by omega) (by omega) b1
  ·cases b2:(decide (bl Q≠[])&&allD (bl Q))
   ·have hno:frm (bl S)=none:=by
     rw[yet (s:=47) e yc7,if_neg]
     exact fun h=>by rw[allb.2 h.2.2] at b2;cases b2
    rw[hno]
    exact yqv S w hw P Q _ _ CP CT (by omega) (by omega) b1 b2
   ·have h3:=allb.1 b1
    have h4:=allb.1 b2
    rw[yet (s:=47) e yc7,if_pos ⟨h3.1,h3.2,h4.1,h4.2⟩,if_neg (by decide),if_pos rfl]
    by_cases hv:val (bl Q)=0
    ·rw[if_pos hv]
     exact yr9 S w hw P Q _ _ CP CT (by omega) (by omega) b1 b2 hv
    ·rw[if_neg hv]
     exact yrz S w hw P Q _ _ CP CT (by omega) (by omega) b1 b2 hv
def qparse (l:List UInt8):List UInt8×Int:=if 1000<l.length then ([],4) else match frm l with
 | none=>([],1)
 | some q=>if short q=true then (txt q,0) else ([],4)
theorem frm_sz {l:List UInt8} {q:Rat} (h:frm l=some q) (hl:l.length<=1000):sz q<=5000:=by
 have hb:(body l).length<=1000:=Nat.le_trans (yfc l) hl
 obtain⟨a,b,e,ha,hbb⟩:=yfo (body l)
 obtain⟨t1,t2⟩:=ydo ha hbb
 unfold frm at h
 rw[e,t1,t2] at h
 have hlen:a.length+b.length<=1000:=by rw[<- List.length_append,<- e];exact hb
 have n1:=ybj a ha
 split at h
 ·cases h
 ·cases b with
  | nil=>
   injection h with h
   subst h
   have:=yg4 (b:=isNeg l) (n:=val a) (d:=1) (by decide)
   rw[ye8] at this
   omega
  | cons c m=>
   rw[List.length_cons] at hlen
   have h2:(if m=[]\/allD m=false then none else if c=46 then some (mkRat (sg (isNeg l) (val (a++m))) (10 ^ m.length)) else if c=47 then (if val m=0 then none else some (mkRat (sg (isNeg l) (val a)) (val m))) else none)=some q:=h
   split at h2
   ·cases h2
   ·rename_i hm
    have hma:allD m=true:=by
     cases hx:allD m
     ·exact absurd (.inr hx) hm
     ·rfl
    have n2:=ybj m hma
    split at h2
    ·injection h2 with h2
     subst h2
     have n3:=ybj (a++m) (by rw[yat,ha,hma];rfl)
     rw[List.length_append] at n3
     have n4:nd (10 ^ m.length)<=m.length+1:=nd_le (by rw[yi8];exact Nat.pow_lt_pow_right (by decide) (by omega))
     have:=yg4 (b:=isNeg l) (n:=val (a++m)) (d:=10 ^ m.length) (Nat.pos_iff_ne_zero.1 (Nat.pow_pos (by decide)))
     omega
    ·split at h2
     ·split at h2
      ·cases h2
      ·rename_i hv
       injection h2 with h2
       subst h2
       have:=yg4 (b:=isNeg l) (n:=val a) (d:=val m) hv
       omega
     ·cases h2
theorem ymx (S:ByteArray) (hs:S.size<=9223372036854775807) (w:World) (hw:Wf w) :
  Calls Tryz.prog 164 #[.string S] w fun e w'=>e=.returned (.tuple #[.string ⟨(qparse (bl S)).1.toArray⟩,.int .i64 (qparse (bl S)).2])/\Below w.heap.size w w':=by
 have sb:(S.size:Int)<=9223372036854775807:=by omega
 obtain⟨X,hX⟩:∃ X,qparse (bl S)=X:=⟨_,rfl⟩
 rw[hX]
 unfold qparse at hX
 rw[yag] at hX
 by_cases hl:1000<S.size
 ·rw[if_pos hl] at hX
  have HX:=zh hX.symm
  have i1:(1000:Int)<(S.size:Int):=by omega
  clear hl hX
  go_enter Tryz.func164,Tryz.ntmps164
  go_wp2
  go_ret2
  exact⟨by rw[HX.out];rfl,Below.refl _ _⟩
 ·rw[if_neg hl] at hX
  have R1:=yog S (by omega) w hw
  have i1:¬(1000:Int)<(S.size:Int):=by omega
  cases h1:frm (bl S) with
  | none=>
   rw[h1] at hX R1
   have HX:=zh hX.symm
   clear hl hX h1
   go_enter Tryz.func164,Tryz.ntmps164
   go_wp2_with (go_at_call 198;((with_reducible refine R1.mono ?_);rintro e w1 ⟨y,A1,l1,c1,A2,l2,c2,rfl,hb,hF⟩;have B1:=zh (yac hb (ya1 w1 (.bool y) (.slice A1 l1 c1) (.slice A2 l2 c2) 178).2.1);clear hb hF))
   go_ret2
   exact⟨by rw[HX.out];rfl,B1.out⟩
  | some q=>
   have hz:=frm_sz h1 (by rw[yag];omega)
   rw[h1] at hX R1
   have TX:=fun w' v (hb:Below w.heap.size w w') (h:Fr w' v q)=>yjt v q w' (hw.up hb) h (by omega)
   have HX:=zh (show X=(put q,if short q=true then 0 else 4) by
    rw[<- hX]
    show (if short q=true then (txt q,0) else ([],4))=_
    unfold put
    split<;>rfl)
   clear hl hX h1 hz
   have HPQ:=zh (show short q=false->put q=[] from fun h=>by unfold put;rw[h];rfl)
   generalize short q=sh at *
   generalize put q=pq at *
   cases sh
   all_goals
    go_enter Tryz.func164,Tryz.ntmps164
    go_wp2_with (first
     | (go_at_call 174;((with_reducible refine(TX _ _ B1.out F1.out).mono ?_);rintro e w2 ⟨rfl,hb⟩;have B2:=zh (yac B1.out hb);clear hb))
     | (go_at_call 198;((with_reducible refine R1.mono ?_);rintro e w1 ⟨y,A1,l1,c1,A2,l2,c2,rfl,hb,hF⟩;have bx:=ya1 w1 (.bool y) (.slice A1 l1 c1) (.slice A2 l2 c2) 178;have F1:=zh ((hF _ rfl).up bx.2.1);have B1:=zh (yac hb bx.2.1);clear hb hF bx)))
    go_ret2
    refine⟨?_,B2.out⟩
    rw[HX.out]
    first|rfl|(rw[HPQ.out (by first|rfl|trivial)];rfl)
theorem ymq:sz (1:Rat)=1:=by
 show max (nd 1) (nd 1)=1
 rw[ye8];rfl
theorem yii {a:Rat} {B:Nat} (h:sz a<=B) (n:Nat):sz (a ^ n)<=n*B+1:=by
 induction n with
 | zero=>rw[Rat.pow_zero,ymq];omega
 | succ n ih=>
  rw[Rat.pow_succ,Nat.succ_mul]
  have:=yp8 (a ^ n) a
  omega
theorem ypd {a:Rat} (h:a≠0) (n:Nat):a ^ n≠0:=by
 induction n with
 | zero=>rw[Rat.pow_zero];decide
 | succ n ih=>rw[Rat.pow_succ];exact fun e=>(Rat.mul_eq_zero.1 e).elim ih h
def PowS (w wr:World) (g:Nat) (a0 a1 a2:Value) (q:Rat):Prop:=
 K2 w wr a0 a1 a2 (.bool false) (.slice none 0 0) (.slice none 0 0) 178/\w.heap.size+2<=g/\g<wr.heap.size/\∃ A c A' c',Rs wr g (.bool (ngt q)) (.slice A (nd (top q)) c) (.slice A' (nd q.den) c') 178/\Nt .u32 wr wr.heap.size A c (top q)/\Nt .u32 wr wr.heap.size A' c' q.den
theorem PowS.fr {w wr:World} {g:Nat} {a0 a1 a2:Value} {q:Rat} (h:PowS w wr g a0 a1 a2 q):∃ A c A' c',wr.cell? ⟨g,0,none⟩=some (.bool (ngt q))/\wr.cell? ⟨g,1,none⟩=some (.slice A (nd (top q)) c)/\wr.cell? ⟨g,2,none⟩=some (.slice A' (nd q.den) c')/\Fr wr (.agg #[.bool (ngt q),.slice A (nd (top q)) c,.slice A' (nd q.den) c']) q:=by
 obtain⟨_,_,_,A,c,A',c',hr,n1,n2⟩:=h
 obtain⟨p0,p1,p2⟩:=hr.cells
 exact⟨A,c,A',c',p0,p1,p2,A,c,A',c',rfl,n1,n2⟩
theorem PowS.up {w w1 w2:World} {g:Nat} {a0 a1 a2:Value} {q:Rat} (h:PowS w w1 g a0 a1 a2 q) (hb:Below w1.heap.size w1 w2):PowS w w2 g a0 a1 a2 q:=by
 obtain⟨h1,h2,h3,A,c,A',c',hr,n1,n2⟩:=h
 exact⟨h1.up hb,h2,Nat.lt_of_lt_of_le h3 hb.size,A,c,A',c',hr.below hb h3,n1.up hb,n2.up hb⟩
theorem PowS.frozen {w wr:World} {g:Nat} {a0 a1 a2:Value} {q:Rat} (h:PowS w wr g a0 a1 a2 q):wr.frozen? ⟨g,0,none⟩=false/\wr.frozen? ⟨g,1,none⟩=false/\wr.frozen? ⟨g,2,none⟩=false:=by
 obtain⟨_,_,_,A,c,A',c',hr,_,_⟩:=h
 exact hr.frozen
theorem PowS.giveN {w wr:World} {g:Nat} {a0 a1 a2:Value} {q p:Rat} {A A':Option Addr} {c c':Nat} (h:PowS w wr g a0 a1 a2 q) (n1:Nt .u32 wr wr.heap.size A c (top p)) (n2:Nt .u32 wr wr.heap.size A' c' p.den) :
  GiveF w p (.returned (.agg #[.bool (ngt p),.slice A (nd (top p)) c,.slice A' (nd p.den) c'])) (put3 (put3 wr g (.bool (ngt p)) (.slice A (nd (top p)) c) (.slice A' (nd p.den) c')) (w.heap.size+1) (.bool (ngt p)) (.slice A (nd (top p)) c) (.slice A' (nd p.den) c')):=by
 obtain⟨h1,h2,h3,A1,c1,A2,c2,hr,_,_⟩:=h
 obtain⟨k1,k2,k3,k4⟩:=h1
 have hk:K2 w (put3 wr g (.bool (ngt p)) (.slice A (nd (top p)) c) (.slice A' (nd p.den) c')) a0 a1 a2 (.bool false) (.slice none 0 0) (.slice none 0 0) 178:=⟨k1.put3_other (by omega),k2.put3_other (by omega),by rw[ydt];exact k3,yaj k4 (by omega)⟩
 exact hk.give rfl rfl rfl (n1.put3 hr rfl rfl rfl) (n2.put3 hr rfl rfl rfl)
theorem PowS.stored {w wr:World} {g:Nat} {a0 a1 a2:Value} {q p:Rat} {A A':Option Addr} {c c':Nat} (h:PowS w wr g a0 a1 a2 q) (n1:Nt .u32 wr wr.heap.size A c (top p)) (n2:Nt .u32 wr wr.heap.size A' c' p.den) :
  PowS w (put3 wr g (.bool (ngt p)) (.slice A (nd (top p)) c) (.slice A' (nd p.den) c')) g a0 a1 a2 p:=by
 obtain⟨h1,h2,h3,A1,c1,A2,c2,hr,_,_⟩:=h
 obtain⟨k1,k2,k3,k4⟩:=h1
 exact⟨⟨k1.put3_other (by omega),k2.put3_other (by omega),by rw[ydt];exact k3,yaj k4 (by omega)⟩,h2,by rw[ydt];exact h3,A,c,A',c',hr.put3_same,n1.put3 hr rfl rfl rfl,n2.put3 hr rfl rfl rfl⟩
theorem PowS.start {w w1:World} {a0 a1 a2:Value} {p:Rat} {A A':Option Addr} {c c':Nat} (h:K2 w w1 a0 a1 a2 (.bool false) (.slice none 0 0) (.slice none 0 0) 178) (n1:Nt .u32 w1 w1.heap.size A c (top p)) (n2:Nt .u32 w1 w1.heap.size A' c' p.den) :
  PowS w (w1.alloc (.cells #[.bool (ngt p),.slice A (nd (top p)) c,.slice A' (nd p.den) c'] 178)) w1.heap.size a0 a1 a2 p:=by
 have hb:=ya1 w1 (.bool (ngt p)) (.slice A (nd (top p)) c) (.slice A' (nd p.den) c') 178
 exact⟨h.up hb.2.1,h.2.2.1,hb.2.2,A,c,A',c',hb.1,n1.up hb.2.1,n2.up hb.2.1⟩
theorem PowS.give {w wr:World} {g:Nat} {a0 a1 a2:Value} {q:Rat} {A A':Option Addr} {c c':Nat} (h:PowS w wr g a0 a1 a2 q) (hc:wr.cell? ⟨g,1,none⟩=some (.slice A (nd (top q)) c)) (hc':wr.cell? ⟨g,2,none⟩=some (.slice A' (nd q.den) c')) :
  GiveF w q (.returned (.agg #[.bool (ngt q),.slice A (nd (top q)) c,.slice A' (nd q.den) c'])) (put3 wr (w.heap.size+1) (.bool (ngt q)) (.slice A (nd (top q)) c) (.slice A' (nd q.den) c')):=by
 obtain⟨h1,_,_,A1,c1,A2,c2,hr,n1,n2⟩:=h
 obtain⟨p0,p1,p2⟩:=hr.cells
 rw[p1] at hc
 rw[p2] at hc'
 cases hc
 cases hc'
 exact h1.give rfl rfl rfl n1 n2
theorem yrl (v1:Value) (a:Rat) (n:Int) (hn:n.natAbs<=12) (w:World) (h1:Fr w v1 a) (h0:a≠0) (hs:sz a<=100) :
  Calls Tryz.prog 129 #[v1,.int .i64 n] w (GiveF w (a ^ n)):=by
 obtain⟨A1,c1,A2,c2,rfl,n1,n2⟩:=h1
 have F1:Fr w (.agg #[.bool (ngt a),.slice A1 (nd (top a)) c1,.slice A2 (nd a.den) c2]) a:=⟨A1,c1,A2,c2,rfl,n1,n2⟩
 have k0:=zh (K2.start w (.bool (ngt a)) (.slice A1 (nd (top a)) c1) (.slice A2 (nd a.den) c2) (.bool false) (.slice none 0 0) (.slice none 0 0) 178)
 have MU:=fun w' v k (hb:Below w.heap.size w w') (h:Fr w' v (a ^ k)) (hk:k<=12)=>yhs v _ (a ^ k) a w' h (F1.up hb) (by have:=yii hs k;omega)
 have DV:=fun w' v v' k (h:Fr w' v 1) (h':Fr w' v' (a ^ k)) (hk:k<=12)=>yq9 v v' 1 (a ^ k) w' h h' (ypd h0 k) (by have:=yii hs k;rw[ymq];omega)
 obtain⟨m,hm⟩:∃ m,n.natAbs=m:=⟨_,rfl⟩
 rw[hm] at hn
 have P0:∃ p,a ^ 0=p:=⟨_,rfl⟩
 obtain⟨p,hp⟩:=P0
 have I1:=fun w'=>yls 1 (by decide) w'
 rw[show ((1:Nat):Rat)=p by rw[<- hp,Rat.pow_zero];rfl] at I1
 rw[show (1:Rat)=p by rw[<- hp,Rat.pow_zero]] at DV
 clear h0 hs n1 n2 F1
 generalize hl1:nd (top a)=l1 at *
 generalize hl2:nd a.den=l2 at *
 generalize hx1:ngt a=x1 at *
 have HP:=zh hp
 clear hp
 rcases (show n=(m:Int)\/(n = -(m:Int)/\m≠0) by omega) with e|⟨e,m0⟩
 ·skip
  have hz:a ^ n=a ^ m:=by rw[e,Rat.zpow_natCast]
  rw[hz]
  subst e
  have i1:¬(m:Int)<0:=by omega
  have i2 : -(m:Int)<=(m:Int):=by omega
  have i3:max (m:Int) (-(m:Int))=(m:Int):=by omega
  have i4:(m:Int)<=12:=by omega
  clear hm hz DV
  go_enter Tryz.func129,Tryz.ntmps129
  go_wp2_with (go_at_call 126;(refine(I1 _).mono ?_);rintro e w1 ⟨v,rfl,⟨A3,c3,A4,c4,rfl,n3,n4⟩,hb⟩;have k1:=zh (PowS.start (k0.out.up hb) n3 n4);have s1:=k1.out.2.2.1;have sb:=hb.size;clear n3 n4 hb)
  go_loopw [11] (fun i wr=>∃ k:Nat,k<=m/\i=.int .i64 (k:Int)/\Hid (PowS w wr w1.heap.size (.bool x1) (.slice A1 l1 c1) (.slice A2 l2 c2) (a ^ k))) (fun i _=>(m - intOf i).toNat)
  case atStart=>exact⟨0,Nat.zero_le _,rfl,by rw[HP.out];exact k1⟩
  case round=>
   obtain⟨k,hk,rfl,hS⟩:=hrel
   clear k1 s1
   obtain⟨A5,c5,A6,c6,d0,d1,d2,F5⟩:=hS.out.fr
   have HG:=zh (hS.out.give d1 d2)
   obtain⟨f0,f1,f2⟩:=hS.out.frozen
   obtain⟨b0,b1,b2⟩:=hS.out.1.1.cells
   obtain⟨q0,q1,q2⟩:=hS.out.1.2.1.cells
   obtain⟨g0,g1,g2⟩:=hS.out.1.2.1.frozen
   by_cases hkm:(k:Int)<(m:Int)
   ·have M:=MU wr _ k hS.out.1.2.2.2 F5 (by omega)
    rw[<- Rat.pow_succ] at M
    obtain⟨q',hq'⟩:∃ q,a ^ (k+1)=q:=⟨_,rfl⟩
    rw[hq'] at M
    have HQ:=zh hq'
    clear hq' HG F5 MU
    generalize a ^ k=q at *
    go_wp2_with (go_at_call 128;(with_reducible refine M.mono ?_);rintro e w2 ⟨v,rfl,⟨A7,c7,A8,c8,rfl,n7,n8⟩,hb⟩;have k2:=zh (hS.out.up hb);have K3:=zh (k2.out.stored n7 n8);obtain⟨f0,f1,f2⟩:=k2.out.frozen;obtain⟨_,_,_,_,d0,d1,d2,_⟩:=k2.out.fr;clear n7 n8 hb)
    go_roundw
    case rel=>exact⟨k+1,by omega,rfl,by rw[HQ.out];exact K3⟩
    case measure=>simp only[intOf];omega
   ·obtain rfl:k=m:=by omega
    clear MU F5
    generalize a ^ k=q at *
    go_wp2
    refine bodyPost_ret (v:=.agg #[.bool (ngt q),.slice A5 (nd (top q)) c5,.slice A6 (nd q.den) c6]) (by simp[results,Tryz.results129,go_sem,q0,q1,q2]) rfl ?_
    exact HG.out
 ·have hz:a ^ n=(a ^ m)⁻¹:=by rw[e,Rat.zpow_neg,Rat.zpow_natCast]
  rw[hz]
  subst e
  have i1 : -(m:Int)<0:=by omega
  have i2 : -(m:Int)<=(m:Int):=by omega
  have i3:max (-(m:Int)) (m:Int)=(m:Int):=by omega
  have i4:(m:Int)<=12:=by omega
  clear hm hz
  go_enter Tryz.func129,Tryz.ntmps129
  go_wp2_with (go_at_call 126;(refine(I1 _).mono ?_);rintro e w1 ⟨v,rfl,⟨A3,c3,A4,c4,rfl,n3,n4⟩,hb⟩;have k1:=zh (PowS.start (k0.out.up hb) n3 n4);have s1:=k1.out.2.2.1;have sb:=hb.size;clear n3 n4 hb)
  go_loopw [11] (fun i wr=>∃ k:Nat,k<=m/\i=.int .i64 (k:Int)/\Hid (PowS w wr w1.heap.size (.bool x1) (.slice A1 l1 c1) (.slice A2 l2 c2) (a ^ k))) (fun i _=>(m - intOf i).toNat)
  case atStart=>exact⟨0,Nat.zero_le _,rfl,by rw[HP.out];exact k1⟩
  case round=>
   obtain⟨k,hk,rfl,hS⟩:=hrel
   clear k1 s1
   obtain⟨A5,c5,A6,c6,d0,d1,d2,F5⟩:=hS.out.fr
   have HG:=zh (hS.out.give d1 d2)
   obtain⟨f0,f1,f2⟩:=hS.out.frozen
   obtain⟨b0,b1,b2⟩:=hS.out.1.1.cells
   obtain⟨q0,q1,q2⟩:=hS.out.1.2.1.cells
   obtain⟨g0,g1,g2⟩:=hS.out.1.2.1.frozen
   by_cases hkm:(k:Int)<(m:Int)
   ·have M:=MU wr _ k hS.out.1.2.2.2 F5 (by omega)
    rw[<- Rat.pow_succ] at M
    obtain⟨q',hq'⟩:∃ q,a ^ (k+1)=q:=⟨_,rfl⟩
    rw[hq'] at M
    have HQ:=zh hq'
    clear hq' HG F5 MU
    generalize a ^ k=q at *
    go_wp2_with (go_at_call 128;(with_reducible refine M.mono ?_);rintro e w2 ⟨v,rfl,⟨A7,c7,A8,c8,rfl,n7,n8⟩,hb⟩;have k2:=zh (hS.out.up hb);have K3:=zh (k2.out.stored n7 n8);obtain⟨f0,f1,f2⟩:=k2.out.frozen;obtain⟨_,_,_,_,d0,d1,d2,_⟩:=k2.out.fr;clear n7 n8 hb)
    go_roundw
    case rel=>exact⟨k+1,by omega,rfl,by rw[HQ.out];exact K3⟩
    case measure=>simp only[intOf];omega
   ·obtain rfl:k=m:=by omega
    clear MU HG
    have DV:=fun w' v v' h h'=>DV w' v v' k h h' hn
    generalize a ^ k=q at *
    have hI:p / q=q⁻¹:=by rw[<- HP.out,Rat.pow_zero,Rat.div_def,Rat.one_mul]
    rw[hI] at DV
    generalize q⁻¹=y at *
    have kd:=zh (hS.out.up (yab (Below.refl _ _) 1))
    have F6:=zh F5
    have KD:=fun w' (hb:Below wr.heap.size wr w')=>(show w'.cell? ⟨w1.heap.size,0,none⟩=some (.bool (ngt q))/\w'.cell? ⟨w1.heap.size,1,none⟩=some (.slice A5 (nd (top q)) c5)/\w'.cell? ⟨w1.heap.size,2,none⟩=some (.slice A6 (nd q.den) c6) from⟨(hb.cell hS.out.2.2.1).trans d0,(hb.cell hS.out.2.2.1).trans d1,(hb.cell hS.out.2.2.1).trans d2⟩)
    have hne:w.heap.size+1<w1.heap.size:=hS.out.2.1
    clear F5 hS
    go_wp2_with fail
    go_region_with (first
      | (go_at_call 173;refine(DV _ _ _ N2.out (F6.out.up B2.out)).mono ?_;rintro e w3 ⟨v,rfl,⟨A7,c7,A8,c8,rfl,n7,n8⟩,hb⟩;have k3:=zh (k2.out.up hb);obtain⟨f0,f1,f2⟩:=k3.out.frozen;obtain⟨d0,d1,d2⟩:=KD _ (B2.out.trans (hb.mono B2.out.size));obtain⟨q0,q1,q2⟩:=k3.out.1.2.1.cells;obtain⟨g0,g1,g2⟩:=k3.out.1.2.1.frozen;have N7:=zh n7;have N8:=zh n8;clear hb n7 n8)
      | (go_at_call 126;(refine(I1 _).mono ?_);rintro e w2 ⟨v,rfl,n2,hb⟩;obtain⟨A9,c9,A10,c10,rfl,n9,n10⟩:=n2;have N2:=zh (show Fr w2 _ p from⟨A9,c9,A10,c10,rfl,n9,n10⟩);have k2:=zh (kd.out.up hb);have B2:=zh ((yab (Below.refl wr.heap.size wr) 1).trans hb);obtain⟨d0,d1,d2⟩:=KD _ B2.out;clear n9 n10 hb))
    all_goals go_wp2
    all_goals refine bodyPost_ret (v:=.agg #[.bool (ngt y),.slice A7 (nd (top y)) c7,.slice A8 (nd y.den) c8]) (by simp[results,Tryz.results129,go_sem,q0,q1,q2]) rfl ?_
    all_goals exact k3.out.giveN N7.out N8.out
structure P7 where
 (a b c d e f g:Int)
deriving DecidableEq
def P7.l (p:P7):List Int:=[p.a,p.b,p.c,p.d,p.e,p.f,p.g]
def uv (F O:ByteArray) (p:P7):Value:=.agg #[.string F,.string O,.int .i64 p.a,.int .i64 p.b,.int .i64 p.c,.int .i64 p.d,.int .i64 p.e,.int .i64 p.f,.int .i64 p.g]
def wi (x:Int):Bool:=decide (-12<=x)&&decide (x<=12)
def vU (F O:List UInt8) (p:P7):Bool:=match num? F with
 | some q=>p.l.all wi&&decide (0<q)&&(num? O).isSome
 | none=>false
theorem yfx {x:Int} (h1 : -12<=x) (h2:x<=12):wi x=true:=by unfold wi;rw[decide_eq_true h1,decide_eq_true h2];rfl
theorem yfz {x:Int} (h1:¬-12<=x):wi x=false:=by unfold wi;rw[decide_eq_false h1];rfl
theorem yd3 {x:Int} (h1:¬x<=12):wi x=false:=by unfold wi;rw[decide_eq_false h1,Bool.and_false]
def Ub (w:World) (g:Nat) (F O:ByteArray) (p:P7):Prop:=w.heap[g]?=some (.cells #[.string F,.string O,.int .i64 p.a,.int .i64 p.b,.int .i64 p.c,.int .i64 p.d,.int .i64 p.e,.int .i64 p.f,.int .i64 p.g] 134 (0,0))
theorem Ub.below {w w':World} {g B:Nat} {F O:ByteArray} {p:P7} (h:Ub w g F O p) (hb:Below B w w') (hg:g<B):Ub w' g F O p:=(hb.block g hg).trans h
theorem Ub.cells {w:World} {g:Nat} {F O:ByteArray} {p:P7} (h:Ub w g F O p):w.cell? ⟨g,0,none⟩=some (.string F)/\w.cell? ⟨g,1,none⟩=some (.string O)/\w.cell? ⟨g,2,none⟩=some (.int .i64 p.a)/\w.cell? ⟨g,3,none⟩=some (.int .i64 p.b)/\w.cell? ⟨g,4,none⟩=some (.int .i64 p.c)/\w.cell? ⟨g,5,none⟩=some (.int .i64 p.d)/\w.cell? ⟨g,6,none⟩=some (.int .i64 p.e)/\w.cell? ⟨g,7,none⟩=some (.int .i64 p.f)/\w.cell? ⟨g,8,none⟩=some (.int .i64 p.g):=by
 unfold Ub at h
 refine⟨?_,?_,?_,?_,?_,?_,?_,?_,?_⟩<;>simp[World.cell?,h]
def KU (w w':World) (F O:ByteArray) (p:P7):Prop:=Ub w' w.heap.size F O p/\Below w.heap.size w w'/\w.heap.size<w'.heap.size
theorem KU.start (w:World) (F O:ByteArray) (p:P7):KU w (w.alloc (.cells #[.string F,.string O,.int .i64 p.a,.int .i64 p.b,.int .i64 p.c,.int .i64 p.d,.int .i64 p.e,.int .i64 p.f,.int .i64 p.g] 134)) F O p:=
 ⟨Deep.blk_alloc_new w _,(Below.refl _ w).alloc (Nat.le_refl _) _,by simp⟩
theorem KU.up {w w1 w2:World} {F O:ByteArray} {p:P7} (h:KU w w1 F O p) (hb:Below w1.heap.size w1 w2):KU w w2 F O p:=⟨h.1.below hb h.2.2,yac h.2.1 hb,Nat.lt_of_lt_of_le h.2.2 hb.size⟩
def P7.upto (p:P7) (b:Bool) (k:Nat):Bool:=b&&(p.l.take k).all wi
theorem P7.upto_no {p:P7} {b:Bool} {k:Nat} (h:p.upto b k=false):p.upto b (k+1)=false:=by
 unfold P7.upto at *
 cases b
 ·rfl
 ·simp only[Bool.true_and] at *
  rw[List.take_add,List.all_append,h,Bool.false_and]
theorem P7.upto_at {p:P7} {b:Bool} {k:Nat} {x:Int} (h:p.upto b k=true) (hx:p.l[k]?=some x):p.upto b (k+1)=wi x:=by
 unfold P7.upto at *
 cases b
 ·cases h
 ·simp only[Bool.true_and] at *
  rw[List.take_add_one,List.all_append,h,hx,Bool.true_and]
  exact Bool.and_true _
theorem Tryz.ix7 (p0 p1 p2 p3 p4 p5 p6:Value) (w:World) :
  (Instr.index 132 (.agg #[p0,p1,p2,p3,p4,p5,p6]) (.int .i64 0)).run Tryz.prog w=.ok p0 w/\(Instr.index 132 (.agg #[p0,p1,p2,p3,p4,p5,p6]) (.int .i64 1)).run Tryz.prog w=.ok p1 w/\(Instr.index 132 (.agg #[p0,p1,p2,p3,p4,p5,p6]) (.int .i64 2)).run Tryz.prog w=.ok p2 w/\(Instr.index 132 (.agg #[p0,p1,p2,p3,p4,p5,p6]) (.int .i64 3)).run Tryz.prog w=.ok p3 w/\(Instr.index 132 (.agg #[p0,p1,p2,p3,p4,p5,p6]) (.int .i64 4)).run Tryz.prog w=.ok p4 w/\(Instr.index 132 (.agg #[p0,p1,p2,p3,p4,p5,p6]) (.int .i64 5)).run Tryz.prog w=.ok p5 w/\(Instr.index 132 (.agg #[p0,p1,p2,p3,p4,p5,p6]) (.int .i64 6)).run Tryz.prog w=.ok p6 w:=by
 refine⟨?_,?_,?_,?_,?_,?_,?_⟩<;>kernel_rfl
theorem ym2 (F O:ByteArray) (p:P7) (hF:F.size<=9223372036854775807) (hO:O.size<=9223372036854775807) (w:World) (hw:Wf w) :
  Calls Tryz.prog 131 #[uv F O p] w fun e w'=>e=.returned (.bool (vU (bl F) (bl O) p))/\Below w.heap.size w w':=by
 have k0:=zh (KU.start w F O p)
 obtain⟨vv,hvv⟩:∃ v,vU (bl F) (bl O) p=v:=⟨_,rfl⟩
 have HV:Hid ((p.upto (num? (bl F)).isSome 7=false->vv=false)/\∀ q,num? (bl F)=some q->p.upto (num? (bl F)).isSome 7=true->vv=(decide (0<sign q)&&(num? (bl O)).isSome)):=by
  refine⟨fun h=>?_,fun q hq h=>?_⟩<;>rw[<- hvv]<;>unfold vU
  ·unfold P7.upto at h
   cases hn:num? (bl F) with
   | none=>rfl
   | some q=>
    rw[hn] at h
    show (p.l.all wi&&_&&_)=false
    rw[show p.l.all wi=false by simpa[P7.l] using h]
    rfl
  ·rw[hq] at h ⊢
   show (p.l.all wi&&_&&_)=_
   rw[show p.l.all wi=true by simpa[P7.upto,P7.l] using h,show decide (0<sign q)=decide (0<q) from decide_eq_decide.2 yru]
   rfl
 rw[hvv]
 obtain⟨p0,p1,p2,p3,p4,p5,p6⟩:=p
 unfold uv
 dsimp only
 have R1:=fun w' (hb:Below w.heap.size w w')=>ydn F hF w' (hw.up hb)
 have V1:=fun w' (hb:Below w.heap.size w w')=>yb8 O hO w' (hw.up hb)
 have U0:∀ x,Hid ((⟨p0,p1,p2,p3,p4,p5,p6⟩:P7).upto x 0=x):=fun x=>Bool.and_true x
 have UF:∀ k,Hid ((⟨p0,p1,p2,p3,p4,p5,p6⟩:P7).upto false k=false):=fun k=>rfl
 clear hF hO hw hvv
 generalize hnf:num? (bl F)=nf at *
 generalize hno:num? (bl O)=no at *
 clear hnf hno
 generalize hx0:nf.isSome=x0 at *
 go_enter Tryz.func131,Tryz.ntmps131
 go_wp2_with (go_at_call 127;refine(R1 _ k0.out.2.1).mono ?_;rintro e w1 ⟨b,A,n,c,A',n',c',rfl,hb,hF⟩;have k1:=zh (k0.out.up hb);obtain⟨c0,c1,c2,c3,c4,c5,c6,c7,c8⟩:=k1.out.1.cells;have s1:=k1.out.2.2;have HF:=zh hF;rw[hx0];clear hb hF)
 go_loopw [4,15] (fun ok i wr=>∃ k:Nat,k<=7/\i=.int .i64 (k:Int)/\(∃ x,ok=.bool x/\Hid (P7.upto ⟨p0,p1,p2,p3,p4,p5,p6⟩ x0 k=x))/\w1.alloc (.cells #[.bool b,.slice A n c,.slice A' n' c'] 178)=wr) (fun _ i _=>(7 - intOf i).toNat)
 case atStart=>exact⟨0,by omega,rfl,⟨_,rfl,U0 _⟩,rfl⟩
 case round=>
  obtain⟨k,hk,ei,⟨x,rfl,hx⟩,rfl⟩:=hrel
  rcases (show k=0\/k=1\/k=2\/k=3\/k=4\/k=5\/k=6\/k=7 by omega) with rfl|rfl|rfl|rfl|rfl|rfl|rfl|rfl
  all_goals clear hk U0 UF
  ·have ej:_=Value.int .i64 0:=ei
   subst ej
   have ix:=fun w=>(Tryz.ix7 (.int .i64 p0) (.int .i64 p1) (.int .i64 p2) (.int .i64 p3) (.int .i64 p4) (.int .i64 p5) (.int .i64 p6) w).1
   have hk7:P7.l ⟨p0,p1,p2,p3,p4,p5,p6⟩=[p0,p1,p2,p3,p4,p5,p6]:=rfl
   try clear ei
   cases x
   ·clear hk7
    go_wp2
    go_roundw
    case rel=>exact⟨1,by omega,by go_num,⟨false,rfl,P7.upto_no hx.out⟩,by first|rfl|trivial⟩
    case measure=>simp[intOf]
   ·have ST:=P7.upto_at (x:=p0) hx.out (by rw[hk7];rfl)
    clear hk7 HV
    by_cases h1 : -12<=p0
    ·by_cases h2:p0<=12
     ·have HS:=zh (ST.trans (yfx h1 h2))
      clear ST
      go_wp2
      go_roundw
      case rel=>exact⟨1,by omega,by go_num,⟨true,rfl,HS.out⟩,by first|rfl|trivial⟩
      case measure=>simp[intOf]
     ·have HS:=zh (ST.trans (yd3 h2))
      clear ST
      go_wp2
      go_roundw
      case rel=>exact⟨1,by omega,by go_num,⟨false,rfl,HS.out⟩,by first|rfl|trivial⟩
      case measure=>simp[intOf]
    ·have HS:=zh (ST.trans (yfz h1))
     clear ST
     go_wp2
     go_roundw
     case rel=>exact⟨1,by omega,by go_num,⟨false,rfl,HS.out⟩,by first|rfl|trivial⟩
     case measure=>simp[intOf]
  ·have ej:_=Value.int .i64 1:=ei
   subst ej
   have ix:=fun w=>(Tryz.ix7 (.int .i64 p0) (.int .i64 p1) (.int .i64 p2) (.int .i64 p3) (.int .i64 p4) (.int .i64 p5) (.int .i64 p6) w).2.1
   have hk7:P7.l ⟨p0,p1,p2,p3,p4,p5,p6⟩=[p0,p1,p2,p3,p4,p5,p6]:=rfl
   try clear ei
   cases x
   ·clear hk7
    go_wp2
    go_roundw
    case rel=>exact⟨2,by omega,by go_num,⟨false,rfl,P7.upto_no hx.out⟩,by first|rfl|trivial⟩
    case measure=>simp[intOf]
   ·have ST:=P7.upto_at (x:=p1) hx.out (by rw[hk7];rfl)
    clear hk7 HV
    by_cases h1 : -12<=p1
    ·by_cases h2:p1<=12
     ·have HS:=zh (ST.trans (yfx h1 h2))
      clear ST
      go_wp2
      go_roundw
      case rel=>exact⟨2,by omega,by go_num,⟨true,rfl,HS.out⟩,by first|rfl|trivial⟩
      case measure=>simp[intOf]
     ·have HS:=zh (ST.trans (yd3 h2))
      clear ST
      go_wp2
      go_roundw
      case rel=>exact⟨2,by omega,by go_num,⟨false,rfl,HS.out⟩,by first|rfl|trivial⟩
      case measure=>simp[intOf]
    ·have HS:=zh (ST.trans (yfz h1))
     clear ST
     go_wp2
     go_roundw
     case rel=>exact⟨2,by omega,by go_num,⟨false,rfl,HS.out⟩,by first|rfl|trivial⟩
     case measure=>simp[intOf]
  ·have ej:_=Value.int .i64 2:=ei
   subst ej
   have ix:=fun w=>(Tryz.ix7 (.int .i64 p0) (.int .i64 p1) (.int .i64 p2) (.int .i64 p3) (.int .i64 p4) (.int .i64 p5) (.int .i64 p6) w).2.2.1
   have hk7:P7.l ⟨p0,p1,p2,p3,p4,p5,p6⟩=[p0,p1,p2,p3,p4,p5,p6]:=rfl
   try clear ei
   cases x
   ·clear hk7
    go_wp2
    go_roundw
    case rel=>exact⟨3,by omega,by go_num,⟨false,rfl,P7.upto_no hx.out⟩,by first|rfl|trivial⟩
    case measure=>simp[intOf]
   ·have ST:=P7.upto_at (x:=p2) hx.out (by rw[hk7];rfl)
    clear hk7 HV
    by_cases h1 : -12<=p2
    ·by_cases h2:p2<=12
     ·have HS:=zh (ST.trans (yfx h1 h2))
      clear ST
      go_wp2
      go_roundw
      case rel=>exact⟨3,by omega,by go_num,⟨true,rfl,HS.out⟩,by first|rfl|trivial⟩
      case measure=>simp[intOf]
     ·have HS:=zh (ST.trans (yd3 h2))
      clear ST
      go_wp2
      go_roundw
      case rel=>exact⟨3,by omega,by go_num,⟨false,rfl,HS.out⟩,by first|rfl|trivial⟩
      case measure=>simp[intOf]
    ·have HS:=zh (ST.trans (yfz h1))
     clear ST
     go_wp2
     go_roundw
     case rel=>exact⟨3,by omega,by go_num,⟨false,rfl,HS.out⟩,by first|rfl|trivial⟩
     case measure=>simp[intOf]
  ·have ej:_=Value.int .i64 3:=ei
   subst ej
   have ix:=fun w=>(Tryz.ix7 (.int .i64 p0) (.int .i64 p1) (.int .i64 p2) (.int .i64 p3) (.int .i64 p4) (.int .i64 p5) (.int .i64 p6) w).2.2.2.1
   have hk7:P7.l ⟨p0,p1,p2,p3,p4,p5,p6⟩=[p0,p1,p2,p3,p4,p5,p6]:=rfl
   try clear ei
   cases x
   ·clear hk7
    go_wp2
    go_roundw
    case rel=>exact⟨4,by omega,by go_num,⟨false,rfl,P7.upto_no hx.out⟩,by first|rfl|trivial⟩
    case measure=>simp[intOf]
   ·have ST:=P7.upto_at (x:=p3) hx.out (by rw[hk7];rfl)
    clear hk7 HV
    by_cases h1 : -12<=p3
    ·by_cases h2:p3<=12
     ·have HS:=zh (ST.trans (yfx h1 h2))
      clear ST
      go_wp2
      go_roundw
      case rel=>exact⟨4,by omega,by go_num,⟨true,rfl,HS.out⟩,by first|rfl|trivial⟩
      case measure=>simp[intOf]
     ·have HS:=zh (ST.trans (yd3 h2))
      clear ST
      go_wp2
      go_roundw
      case rel=>exact⟨4,by omega,by go_num,⟨false,rfl,HS.out⟩,by first|rfl|trivial⟩
      case measure=>simp[intOf]
    ·have HS:=zh (ST.trans (yfz h1))
     clear ST
     go_wp2
     go_roundw
     case rel=>exact⟨4,by omega,by go_num,⟨false,rfl,HS.out⟩,by first|rfl|trivial⟩
     case measure=>simp[intOf]
  ·have ej:_=Value.int .i64 4:=ei
   subst ej
   have ix:=fun w=>(Tryz.ix7 (.int .i64 p0) (.int .i64 p1) (.int .i64 p2) (.int .i64 p3) (.int .i64 p4) (.int .i64 p5) (.int .i64 p6) w).2.2.2.2.1
   have hk7:P7.l ⟨p0,p1,p2,p3,p4,p5,p6⟩=[p0,p1,p2,p3,p4,p5,p6]:=rfl
   try clear ei
   cases x
   ·clear hk7
    go_wp2
    go_roundw
    case rel=>exact⟨5,by omega,by go_num,⟨false,rfl,P7.upto_no hx.out⟩,by first|rfl|trivial⟩
    case measure=>simp[intOf]
   ·have ST:=P7.upto_at (x:=p4) hx.out (by rw[hk7];rfl)
    clear hk7 HV
    by_cases h1 : -12<=p4
    ·by_cases h2:p4<=12
     ·have HS:=zh (ST.trans (yfx h1 h2))
      clear ST
      go_wp2
      go_roundw
      case rel=>exact⟨5,by omega,by go_num,⟨true,rfl,HS.out⟩,by first|rfl|trivial⟩
      case measure=>simp[intOf]
     ·have HS:=zh (ST.trans (yd3 h2))
      clear ST
      go_wp2
      go_roundw
      case rel=>exact⟨5,by omega,by go_num,⟨false,rfl,HS.out⟩,by first|rfl|trivial⟩
      case measure=>simp[intOf]
    ·have HS:=zh (ST.trans (yfz h1))
     clear ST
     go_wp2
     go_roundw
     case rel=>exact⟨5,by omega,by go_num,⟨false,rfl,HS.out⟩,by first|rfl|trivial⟩
     case measure=>simp[intOf]
  ·have ej:_=Value.int .i64 5:=ei
   subst ej
   have ix:=fun w=>(Tryz.ix7 (.int .i64 p0) (.int .i64 p1) (.int .i64 p2) (.int .i64 p3) (.int .i64 p4) (.int .i64 p5) (.int .i64 p6) w).2.2.2.2.2.1
   have hk7:P7.l ⟨p0,p1,p2,p3,p4,p5,p6⟩=[p0,p1,p2,p3,p4,p5,p6]:=rfl
   try clear ei
   cases x
   ·clear hk7
    go_wp2
    go_roundw
    case rel=>exact⟨6,by omega,by go_num,⟨false,rfl,P7.upto_no hx.out⟩,by first|rfl|trivial⟩
    case measure=>simp[intOf]
   ·have ST:=P7.upto_at (x:=p5) hx.out (by rw[hk7];rfl)
    clear hk7 HV
    by_cases h1 : -12<=p5
    ·by_cases h2:p5<=12
     ·have HS:=zh (ST.trans (yfx h1 h2))
      clear ST
      go_wp2
      go_roundw
      case rel=>exact⟨6,by omega,by go_num,⟨true,rfl,HS.out⟩,by first|rfl|trivial⟩
      case measure=>simp[intOf]
     ·have HS:=zh (ST.trans (yd3 h2))
      clear ST
      go_wp2
      go_roundw
      case rel=>exact⟨6,by omega,by go_num,⟨false,rfl,HS.out⟩,by first|rfl|trivial⟩
      case measure=>simp[intOf]
    ·have HS:=zh (ST.trans (yfz h1))
     clear ST
     go_wp2
     go_roundw
     case rel=>exact⟨6,by omega,by go_num,⟨false,rfl,HS.out⟩,by first|rfl|trivial⟩
     case measure=>simp[intOf]
  ·have ej:_=Value.int .i64 6:=ei
   subst ej
   have ix:=fun w=>(Tryz.ix7 (.int .i64 p0) (.int .i64 p1) (.int .i64 p2) (.int .i64 p3) (.int .i64 p4) (.int .i64 p5) (.int .i64 p6) w).2.2.2.2.2.2
   have hk7:P7.l ⟨p0,p1,p2,p3,p4,p5,p6⟩=[p0,p1,p2,p3,p4,p5,p6]:=rfl
   try clear ei
   cases x
   ·clear hk7
    go_wp2
    go_roundw
    case rel=>exact⟨7,by omega,by go_num,⟨false,rfl,P7.upto_no hx.out⟩,by first|rfl|trivial⟩
    case measure=>simp[intOf]
   ·have ST:=P7.upto_at (x:=p6) hx.out (by rw[hk7];rfl)
    clear hk7 HV
    by_cases h1 : -12<=p6
    ·by_cases h2:p6<=12
     ·have HS:=zh (ST.trans (yfx h1 h2))
      clear ST
      go_wp2
      go_roundw
      case rel=>exact⟨7,by omega,by go_num,⟨true,rfl,HS.out⟩,by first|rfl|trivial⟩
      case measure=>simp[intOf]
     ·have HS:=zh (ST.trans (yd3 h2))
      clear ST
      go_wp2
      go_roundw
      case rel=>exact⟨7,by omega,by go_num,⟨false,rfl,HS.out⟩,by first|rfl|trivial⟩
      case measure=>simp[intOf]
    ·have HS:=zh (ST.trans (yfz h1))
     clear ST
     go_wp2
     go_roundw
     case rel=>exact⟨7,by omega,by go_num,⟨false,rfl,HS.out⟩,by first|rfl|trivial⟩
     case measure=>simp[intOf]
  ·have ej:_=Value.int .i64 7:=ei
   subst ej
   try clear ei
   cases x
   ·have HX:=zh (HV.out.1 hx.out)
    clear HV
    go_wp2
    go_ret
    exact⟨by rw[HX.out];rfl,yac k1.out.2.1 (ya1 w1 _ _ _ _).2.1⟩
   ·obtain⟨q,rfl⟩:∃ q,nf=some q:=by
     cases nf with
     | none=>rw[<- hx0] at hx;cases hx.out
     | some q=>exact⟨q,rfl⟩
    have HX:=HV.out.2 q rfl hx.out
    have bx:=ya1 w1 (.bool b) (.slice A n c) (.slice A' n' c') 178
    have k2:=zh (k1.out.up bx.2.1)
    have FQ:=(HF.out q rfl).up bx.2.1
    have SG:=yi5 _ q _ FQ
    clear HV HF FQ bx R1
    have V2:=V1
    generalize sign q=sg at *
    generalize no.isSome=nb at *
    by_cases hs:0<sg
    ·rw[decide_eq_true hs,Bool.true_and] at HX
     subst HX
     go_wp2_with (first
      | (go_at_call 133;refine(V1 _ k3.out.2.1).mono ?_;rintro e w3 ⟨rfl,hb⟩;have k4:=zh (k3.out.up hb);clear hb)
      | (go_at_call 175;refine SG.mono ?_;rintro e w2 ⟨rfl,hb⟩;have k3:=zh (k2.out.up hb);have s2:=k3.out.2.2;obtain⟨c0,c1,c2,c3,c4,c5,c6,c7,c8⟩:=k3.out.1.cells;clear hb))
     go_ret
     exact⟨rfl,k4.out.2.1⟩
    ·rw[decide_eq_false hs,Bool.false_and] at HX
     subst HX
     go_wp2_with (go_at_call 175;refine SG.mono ?_;rintro e w2 ⟨rfl,hb⟩;have k3:=zh (k2.out.up hb);have s2:=k3.out.2.2;obtain⟨c0,c1,c2,c3,c4,c5,c6,c7,c8⟩:=k3.out.1.cells;clear hb)
     go_ret
     exact⟨rfl,k3.out.2.1⟩
end Go.Proofs.YtajmjllhdcdkmaaGreatDoor
