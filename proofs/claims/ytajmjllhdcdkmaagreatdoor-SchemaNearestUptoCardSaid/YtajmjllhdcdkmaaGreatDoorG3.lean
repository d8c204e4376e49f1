import Derived.Test.YtajmjllhdcdkmaaGreatDoorZ
import Derived.Test.YtajmjllhdcdkmaaGreatDoorG1
import Derived.Test.YtajmjllhdcdkmaaGreatDoorG2
import Derived.Test.YtajmjllhdcdkmaaGreatDoorProg
import Derived.WalkKit
import Derived.WalkSpells
import Derived.WalkLawsBesides
import Derived.Lib.Hide
import Derived.Deep.QuietTactic
import Derived.BigQuiet
import Derived.Below
import Derived.Deep.OwnRows
import Derived.Laws.OwnMore
import Derived.Maps.AppendAt
import Derived.OwnWalk
import Derived.IntWalk
set_option maxRecDepth 100000
set_option maxHeartbeats 3200000
namespace Go.Proofs.YtajmjllhdcdkmaaGreatDoor
open Go.RowKit Go.Proofs.YtajmjllhdcdkmaaGreatDoor.Dg
def Fs (k:IntKind) (w:World) (B:Nat) (A:Option Addr) (n c:Nat) (o:Nat->Nat):Prop:=
 n<=c/\(A=none->c=0)/\(0<n->∃ b off,A=some ⟨b,off,none⟩/\b<B/\∀ j,j<n->w.cell? ⟨b,off+j,none⟩=some (.int k ((o j:Nat):Int)))
theorem Fs.nil (k:IntKind) (w:World) (B:Nat) (o:Nat->Nat):Fs k w B none 0 0 o:=⟨Nat.le_refl _,fun _=>rfl,fun h=>absurd h (by omega)⟩
theorem Fs.zero {k:IntKind} {w:World} {B n c:Nat} {A:Option Addr} {o:Nat->Nat} (o':Nat->Nat) (h:Fs k w B A n c o):Fs k w B A 0 c o':=⟨Nat.zero_le _,h.2.1,fun h=>absurd h (by omega)⟩
theorem Fs.keep {k:IntKind} {w w':World} {B n c:Nat} {A:Option Addr} {o:Nat->Nat} (h:Fs k w B A n c o) (hb:Below B w w'):Fs k w' B A n c o:=
 ⟨h.1,h.2.1,fun hn=>by
  obtain⟨b,off,e,hlt,hc⟩:=h.2.2 hn
  exact⟨b,off,e,hlt,fun j hj=>(hb.cell (p:=⟨b,off+j,none⟩) hlt).trans (hc j hj)⟩⟩
theorem Fs.more {k:IntKind} {w:World} {B B' n c:Nat} {A:Option Addr} {o:Nat->Nat} (h:Fs k w B A n c o) (hB:B<=B'):Fs k w B' A n c o:=
 ⟨h.1,h.2.1,fun hn=>by
  obtain⟨b,off,e,hlt,hc⟩:=h.2.2 hn
  exact⟨b,off,e,by omega,hc⟩⟩
theorem Fs.up {k:IntKind} {w w':World} {n c:Nat} {A:Option Addr} {o:Nat->Nat} (h:Fs k w w.heap.size A n c o) (hb:Below w.heap.size w w'):Fs k w' w'.heap.size A n c o:=(h.keep hb).more hb.size
theorem Fs.congr {k:IntKind} {w:World} {B n c:Nat} {A:Option Addr} {o o':Nat->Nat} (h:Fs k w B A n c o) (e:∀ j,j<n->o j=o' j):Fs k w B A n c o':=
 ⟨h.1,h.2.1,fun hn=>by
  obtain⟨b,off,e1,hlt,hc⟩:=h.2.2 hn
  exact⟨b,off,e1,hlt,fun j hj=>by rw[<- e j hj];exact hc j hj⟩⟩
theorem Fs.take {k:IntKind} {w:World} {B n c:Nat} {A:Option Addr} {o:Nat->Nat} (h:Fs k w B A n c o) {m:Nat} (hm:m<=n):Fs k w B A m c o:=
 ⟨by have:=h.1;omega,h.2.1,fun hn=>by
  obtain⟨b,off,e1,hlt,hc⟩:=h.2.2 (by omega)
  exact⟨b,off,e1,hlt,fun j hj=>hc j (by omega)⟩⟩
theorem Fs.at_ {k:IntKind} {w:World} {B n c j:Nat} {A:Option Addr} {o:Nat->Nat} (h:Fs k w B A n c o) (hj:j<n):∃ b off,A=some ⟨b,off,none⟩/\b<B/\w.cell? ⟨b,off+j,none⟩=some (.int k ((o j:Nat):Int)):=by
 obtain⟨b,off,e,hlt,hc⟩:=h.2.2 (by omega)
 exact⟨b,off,e,hlt,hc j hj⟩
def Nt (k:IntKind) (w:World) (B:Nat) (A:Option Addr) (c a:Nat):Prop:=Fs k w B A (nd a) c (dg a)
def GiveN (k:IntKind) (w:World) (a:Nat) (e:Ending) (w':World):Prop:=∃ A c,e=.returned (.slice A (nd a) c)/\Nt k w' w'.heap.size A c a/\Below w.heap.size w w'
def Lw (k:IntKind) (w:World) (g:Nat) (t:TypeId) (n:Nat) (o:Nat->Nat):Prop:=
 ∃ c:Array Value,w.heap[g]?=some (.cells c t (0,0))/\n<=c.size/\∀ i,i<n->c[i]?=some (.int k ((o i:Nat):Int))
theorem Lw.of_block {k:IntKind} {w w':World} {g n:Nat} {t:TypeId} {o:Nat->Nat} (h:Lw k w g t n o) (e:w'.heap[g]?=w.heap[g]?):Lw k w' g t n o:=by
 obtain⟨c,hb,hn,hc⟩:=h
 exact⟨c,e.trans hb,hn,hc⟩
theorem Lw.lt {k:IntKind} {w:World} {g n:Nat} {t:TypeId} {o:Nat->Nat} (h:Lw k w g t n o):g<w.heap.size:=by
 obtain⟨c,hb,_,_⟩:=h
 exact(Array.getElem?_eq_some_iff.1 hb).1
theorem Lw.set {k:IntKind} {w:World} {g n:Nat} {t:TypeId} {o:Nat->Nat} (h:Lw k w g t n o) (i v:Nat):Lw k (w.setCell ⟨g,i,none⟩ (.int k ((v:Nat):Int))) g t n (upd o i v):=by
 obtain⟨c,hb,hn,hc⟩:=h
 refine⟨c.setIfInBounds i (.int k ((v:Nat):Int)),?_,by simpa using hn,fun j hj=>?_⟩
 ·simp[World.setCell,Array.getElem?_modify,hb]
 ·rw[Array.getElem?_setIfInBounds]
  by_cases e:i=j
  ·subst e
   rw[if_pos rfl,if_pos (by omega),ycd]
  ·rw[if_neg e,hc j hj,yfd _ _ (fun e'=>e e'.symm)]
theorem Lw.made (k:IntKind) (w:World) (n:Nat) (t:TypeId):Lw k (w.alloc (.cells (madeCells #[.int k 0] n) t)) w.heap.size t n (fun _=>0):=by
 obtain⟨c,hb,hn,hc⟩:=World.rowIs_made w (.int k 0) n t
 exact⟨c,hb,by omega,hc⟩
theorem Lw.alloc {k:IntKind} {w:World} {g n:Nat} {t:TypeId} {o:Nat->Nat} (h:Lw k w g t n o) (x:Obj):Lw k (w.alloc x) g t n o:=h.of_block (Deep.blk_alloc_lt _ _ _ h.lt)
theorem Lw.below {k:IntKind} {w w':World} {g n B:Nat} {t:TypeId} {o:Nat->Nat} (h:Lw k w g t n o) (hb:Below B w w') (hg:g<B):Lw k w' g t n o:=h.of_block (hb.block g hg)
theorem Lw.cell {k:IntKind} {w:World} {g n i:Nat} {t:TypeId} {o:Nat->Nat} (h:Lw k w g t n o) (hi:i<n):w.cell? ⟨g,i,none⟩=some (.int k ((o i:Nat):Int)):=by
 obtain⟨c,hb,_,hc⟩:=h
 simp[World.cell?,hb,hc i hi]
theorem Lw.frozen {k:IntKind} {w:World} {g n:Nat} {t:TypeId} {o:Nat->Nat} (h:Lw k w g t n o) (i:Nat):w.frozen? ⟨g,i,none⟩=false:=by
 obtain⟨c,hb,_,_⟩:=h
 simp[World.frozen?,hb]
theorem Lw.congr {k:IntKind} {w:World} {g n:Nat} {t:TypeId} {o o':Nat->Nat} (h:Lw k w g t n o) (e:∀ j,j<n->o j=o' j):Lw k w g t n o':=by
 obtain⟨c,hb,hn,hc⟩:=h
 exact⟨c,hb,hn,fun j hj=>by rw[hc j hj,e j hj]⟩
theorem Lw.fs {k:IntKind} {w:World} {g n m c:Nat} {t:TypeId} {o:Nat->Nat} (h:Lw k w g t n o) (hm:m<=n) (hc:m<=c):Fs k w w.heap.size (some ⟨g,0,none⟩) m c o:=
 ⟨hc,(fun e=>by cases e),fun _=>⟨g,0,rfl,h.lt,fun j hj=>by rw[Nat.zero_add];exact h.cell (by omega)⟩⟩
theorem yab {B:Nat} {a w:World} (h:Below B a w) (n:Nat):Below B a (w.drewN n):=⟨h.os,h.tape,h.output,h.size,h.block⟩
theorem yj7 (w:World) (m n:Nat):(w.drewN m).drewN n=w.drewN (m+n):=by unfold World.drewN;simp[Nat.add_assoc]
theorem yaa {a w:World} (h:Below a.heap.size a w) (o:Obj):Below a.heap.size a (w.alloc o):=h.alloc h.size o
theorem yac {a b c:World} (h:Below a.heap.size a b) (k:Below b.heap.size b c):Below a.heap.size a c:=h.trans (k.mono h.size)
def Zs (o:Nat->Nat) (k n:Nat):Prop:=∀ j,k<=j->j<n->o j=0
theorem yi4 (A:Option Addr) (n c:Nat) (o:Nat->Nat) (w:World) (h:Fs .u32 w w.heap.size A n c o) (hn:n<=4611686018427387904) :
  Calls Tryz.prog 209 #[.slice A n c] w fun e w'=>(∃ k,k<=n/\Zs o k n/\(k=0\/o (k - 1)≠0)/\e=.returned (.slice A k c))/\w'=w:=by
 have hnc:=h.1
 have H:=zh h
 clear h
 go_enter Tryz.func209,Tryz.ntmps209
 go_wp2
 go_loop [3] (fun i=>∃ k:Nat,k<=n/\Zs o k n/\i=.int .i64 k) (fun i=>(intOf i).toNat)
 case atStart=>exact⟨n,Nat.le_refl _,fun j h1 h2=>absurd h1 (by omega),rfl⟩
 case round=>
  obtain⟨k,hk,hz,rfl⟩:=hrel
  by_cases hk0:k=0
  ·subst hk0
   go_wp2
   go_ret
   exact⟨⟨0,Nat.zero_le _,hz,.inl rfl,rfl⟩,rfl⟩
  ·obtain⟨m,rfl⟩:∃ m,k=m+1:=⟨k - 1,by omega⟩
   obtain⟨b,off,rfl,_,hc⟩:=H.out.at_ (show m<n by omega)
   clear hk0
   by_cases h0:o m=0
   ·rw[h0] at hc
    have HZ:=zh (show Zs o m n from fun j h1 h2=>by
     by_cases e:j=m
     ·subst e;exact h0
     ·exact hz j (by omega) h2)
    clear h0 hz
    go_wp2
    go_round
    case rel=>exact⟨m,by omega,HZ.out,by go_num⟩
    case measure=>simp[intOf]
   ·go_wp2
    go_ret
    exact⟨⟨m+1,hk,hz,.inr (by simpa using h0),rfl⟩,rfl⟩
theorem Fs.trimmed {k:IntKind} {w:World} {B n c:Nat} {A:Option Addr} {o:Nat->Nat} (h:Fs k w B A n c o) (ho:∀ j,j<n->o j<1000000000) (hk:nd (sumTo o n)<=n):Nt k w B A c (sumTo o n):=
 (h.take hk).congr fun j hj=>(ys0 ho (by omega)).symm
theorem yhm {n:Nat} {o:Nat->Nat} (ho:∀ j,j<n->o j<1000000000):nd (sumTo o n)<=n:=nd_le (ydm ho)
theorem ybo (A:Option Addr) (n c:Nat) (o:Nat->Nat) (w:World) (h:Fs .u32 w w.heap.size A n c o) (ho:∀ j,j<n->o j<1000000000) (hn:n<=4611686018427387904) :
  Calls Tryz.prog 209 #[.slice A n c] w fun e w'=>e=.returned (.slice A (nd (sumTo o n)) c)/\w'=w:=
 (yi4 A n c o w h hn).mono fun e w' ⟨⟨k,hk,hz,ht,he⟩,hw⟩=>⟨by rw[ypy ho hk hz ht];exact he,hw⟩
def cmpN (a b:Nat):Int:=if a<b then -1 else if b<a then 1 else 0
theorem yp0 {a b:Nat} (h:a<b):cmpN a b = -1:=by unfold cmpN;rw[if_pos h]
theorem ypb {a b:Nat} (h:b<a):cmpN a b=1:=by unfold cmpN;rw[if_neg (by omega),if_pos h]
theorem ysq {a b:Nat} (h:a=b):cmpN a b=0:=by unfold cmpN;rw[if_neg (by omega),if_neg (by omega)]
theorem yex (A1 A2:Option Addr) (c1 c2 a b:Nat) (w:World) (h1:Nt .u32 w w.heap.size A1 c1 a) (h2:Nt .u32 w w.heap.size A2 c2 b) (hn1:nd a<=4611686018427387904) :
  Calls Tryz.prog 237 #[.slice A1 (nd a) c1,.slice A2 (nd b) c2] w fun e w'=>e=.returned (.int .i64 (cmpN a b))/\∃ q,w'=w.drewN q:=by
 rcases Nat.lt_trichotomy (nd a) (nd b) with hl|hl|hl
 ·rw[yp0 (yl0 hl)]
  generalize nd a=n1 at *
  generalize nd b=n2 at *
  clear h1 h2
  go_enter Tryz.func237,Tryz.ntmps237
  go_wp2
  go_ret
  exact⟨rfl,0,rfl⟩
 ·have hall:a / pw (nd a)=b / pw (nd a):=by rw[yd8 (Nat.le_refl _),yd8 (by omega)]
  have G1:=zh h1
  have G2:=zh h2
  unfold Nt at G1 G2
  clear h1 h2
  rw[<- hl] at G2 ⊢
  clear hl
  generalize nd a=n at *
  go_enter Tryz.func237,Tryz.ntmps237
  go_wp2
  go_loopw [5] (fun i wr=>∃ k:Nat,k<=n/\Hid (a / pw k=b / pw k)/\i=.int .i64 ((k:Int) - 1)/\∃ q,wr=w.drewN q) (fun i _=>(intOf i+1).toNat)
  case atStart=>exact⟨n,Nat.le_refl _,zh hall,rfl,0,rfl⟩
  case round=>
   clear hall
   obtain⟨k,hk,he,rfl,q,rfl⟩:=hrel
   by_cases hk0:k=0
   ·subst hk0
    have HE:=zh (ysq (ys4 he.out))
    clear he
    go_wp2
    go_ret
    exact⟨by rw[HE.out];rfl,q,rfl⟩
   ·obtain⟨m,rfl⟩:∃ m,k=m+1:=⟨k - 1,by omega⟩
    obtain⟨b1,o1,rfl,_,q1⟩:=G1.out.at_ (show m<n by omega)
    obtain⟨b2,o2,rfl,_,q2⟩:=G2.out.at_ (show m<n by omega)
    have em:((m+1:Nat):Int) - 1=(m:Int):=by omega
    rw[em]
    clear hk0 em
    have i1:(m:Int)<(n:Int):=by omega
    have i0:(0:Int)<=(m:Int):=by omega
    rcases Nat.lt_trichotomy (dg a m) (dg b m) with hd|hd|hd
    ·have HE:=zh (yp0 (ylu he.out hd))
     clear he
     generalize dg a m=x at *
     generalize dg b m=y at *
     go_wp2
     go_quiet (fail)
     go_wp2
     go_ret
     exact⟨by rw[HE.out];rfl,_,by simp only[yj7];rfl⟩
    ·have HE:=zh (yrh he.out hd)
     clear he
     rw[<- hd] at q2
     clear hd
     generalize dg a m=x at *
     go_wp2
     go_quiet (fail)
     go_wp2
     go_quiet (fail)
     go_wp2
     go_roundw
     case rel=>exact⟨m,by omega,HE,rfl,_,rfl⟩
     case measure=>simp[intOf]
    ·have HE:=zh (ypb (ylu he.out.symm hd))
     have hd':¬dg a m<dg b m:=by omega
     clear he
     generalize dg a m=x at *
     generalize dg b m=y at *
     go_wp2
     go_quiet (fail)
     go_wp2
     go_quiet (fail)
     go_wp2
     go_ret
     exact⟨by rw[HE.out];rfl,_,by simp only[yj7];rfl⟩
 ·rw[ypb (yl0 hl)]
  generalize nd a=n1 at *
  generalize nd b=n2 at *
  clear h1 h2
  have h3:¬n1<n2:=by omega
  have h4:¬n1=n2:=by omega
  go_enter Tryz.func237,Tryz.ntmps237
  go_wp2
  go_ret
  exact⟨rfl,0,rfl⟩
theorem Tryz.infoU32:(Tryz.prog.info? 226).map (fun i=>(i.zero,i.size,i.bytes))=some (some (.int .u32 0),1,4):=by kernel_rfl
def Rw (k:IntKind) (w wr:World) (g:Nat) (t:TypeId) (n:Nat) (o:Nat->Nat):Prop:=Below w.heap.size w wr/\Lw k wr g t n o
def lowz (q k:Nat):Nat->Nat:=fun j=>if k<=j then dg q j else 0
theorem yjm {q k:Nat} (j:Nat):upd (lowz q (k+1)) k (dg q k) j=lowz q k j:=by
 unfold upd lowz
 split
 ·rename_i h;subst h;rw[if_pos (Nat.le_refl _)]
 ·rename_i h
  by_cases h1:k+1<=j
  ·rw[if_pos h1,if_pos (by omega)]
  ·rw[if_neg h1,if_neg (by omega)]
def GiveNR (k:IntKind) (w:World) (a:Nat) (r:Nat) (e:Ending) (w':World):Prop:=∃ A c,e=.returned (.tuple #[.slice A (nd a) c,.int .u64 (r:Int)])/\Nt k w' w'.heap.size A c a/\Below w.heap.size w w'
theorem yjk (A:Option Addr) (c a m:Nat) (w:World) (h:Nt .u32 w w.heap.size A c a) (hn:nd a<=1000000) (hm0:0<m) (hm:m<=1000000000) :
  Calls Tryz.prog 238 #[.slice A (nd a) c,.int .u64 m] w (GiveNR .u32 w (a / m) (a % m)):=by
 have hmk:=fun w=>run_make_row' (P:=Tryz.prog) 176 226 (.int .u32 0) 4 Tryz.underlying176 Tryz.infoU32 rfl .i64 .i64 (nd a) (by omega) (by omega) w
 have H:=zh h
 unfold Nt at H
 have hdz:a / pw (nd a) % m=0:=by rw[yd8 (Nat.le_refl _)];simp
 have hnq:nd (a / m)<=nd a:=ybi (Nat.div_le_self _ _)
 have hq0:∀ j,nd a<=j->dg (a / m) j=0:=fun j hj=>ydu (by omega)
 have R0:Hid (Rw .u32 w (w.alloc (.cells (madeCells #[.int .u32 0] (nd a)) 226)) w.heap.size 226 (nd a) (lowz (a / m) (nd a))):=
  ⟨(Below.refl _ _).alloc (Nat.le_refl _) _,(Lw.made .u32 w (nd a) 226).congr fun j hj=>by unfold lowz;rw[if_neg (by omega)]⟩
 have HQ:=zh hq0
 have HD:=zh hdz
 clear h hdz hq0
 generalize hN:nd a=n at *
 have HN:=zh hN
 clear hN
 go_enter Tryz.func238,Tryz.ntmps238
 go_wp2
 clear hmk
 go_loopw [7,8] (fun r i wr=>∃ k:Nat,k<=n/\i=.int .i64 ((k:Int) - 1)/\r=.int .u64 ((a / pw k % m:Nat):Int)/\Hid (Rw .u32 w wr w.heap.size 226 n (lowz (a / m) k))) (fun _ i _=>(intOf i+1).toNat)
 case atStart=>exact⟨n,Nat.le_refl _,rfl,by rw[HD.out];rfl,R0⟩
 case round=>
  clear R0 HD
  obtain⟨k,hk,rfl,rfl,hR⟩:=hrel
  have hB:=zh hR.out.1
  have hL:=zh hR.out.2
  by_cases hk0:k=0
  ·subst hk0
   have T:=fun hw0=>ybo (some ⟨w.heap.size,0,none⟩) n n (lowz (a / m) 0) wr (hL.out.fs (Nat.le_refl _) (Nat.le_refl _)) hw0 (by omega)
   have T1:=T (fun j hj=>by unfold lowz;rw[if_pos (Nat.zero_le _)];exact dg_lt _ _)
   have hs:sumTo (lowz (a / m) 0) n=a / m:=by
    rw[ya9 (o':=dg (a / m)) (fun j _=>by unfold lowz;rw[if_pos (Nat.zero_le _)]),yc2,yb4 hnq]
   rw[hs] at T1
   have hr:a / pw 0 % m=a % m:=by rw[ybb,Nat.div_one]
   rw[hr]
   have HF:=zh (show Nt .u32 wr wr.heap.size (some ⟨w.heap.size,0,none⟩) n (a / m) from
    ((hL.out.fs (m:=nd (a / m)) hnq hnq).congr fun j _=>by unfold lowz;rw[if_pos (Nat.zero_le _)]))
   clear T hs hr
   go_wp2_with (go_at_call 209;(with_reducible refine T1.mono ?_);rintro e w1 ⟨rfl,rfl⟩)
   go_ret2
   exact⟨_,_,rfl,HF.out,hB.out⟩
  ·obtain⟨j,rfl⟩:∃ j,k=j+1:=⟨k - 1,by omega⟩
   obtain⟨b,off,rfl,hlt,q1⟩:=H.out.at_ (show j<n by omega)
   have q2:wr.cell? ⟨b,off+j,none⟩=some (.int .u32 (dg a j:Int)):=(hB.out.cell (p:=⟨b,off+j,none⟩) hlt).trans q1
   have tc:=hL.out.cell (show j<n by omega)
   have tf:=hL.out.frozen j
   have em:((j+1:Nat):Int) - 1=(j:Int):=by omega
   rw[em]
   obtain⟨s1,s2,s3⟩:=ynf (a:=a) (i:=j) hm0 rfl
   have hx:a / pw (j+1) % m<m:=Nat.mod_lt _ hm0
   have hd:=dg_lt a j
   rw[Nat.mod_eq_of_lt s2] at s1
   have S3:=zh s3
   have HS:=zh (show Rw .u32 w (wr.setCell ⟨w.heap.size,j,none⟩ (.int .u32 (dg (a / m) j:Int))) w.heap.size 226 n (lowz (a / m) j) from
    ⟨hB.out.setCell (Nat.le_refl _) _,(hL.out.set j (dg (a / m) j)).congr fun i _=>yjm i⟩)
   clear hk0 em q1 hR hB hL s3
   generalize a / pw (j+1) % m=x at *
   generalize dg a j=d at *
   generalize dg (a / m) j=q' at *
   generalize lowz (a / m) (j+1) j=z at *
   have i1:(j:Int)<(n:Int):=by omega
   have i0:(0:Int)<=(j:Int):=by omega
   have b1:(x:Int)<=999999999:=by omega
   have b2:(d:Int)<=999999999:=by omega
   have b3:(q':Int)<=999999999:=by omega
   have b4:(0:Int)<(m:Int):=by omega
   have e1:((x:Int)*1000000000+(d:Int)) / (m:Int)=(q':Int):=by rw[<- s1];simp only[Int.natCast_ediv,Int.natCast_add,Int.natCast_mul];rfl
   have E2:=zh (show ((x:Int)*1000000000+(d:Int)) % (m:Int)=((a / pw j % m:Nat):Int) by rw[<- S3.out];simp only[Int.natCast_emod,Int.natCast_add,Int.natCast_mul];rfl)
   clear s1 s2 hx hd
   go_wp2
   go_roundw
   case rel=>exact⟨j,by omega,rfl,by rw[E2.out],HS⟩
   case measure=>simp[intOf]
def Rb (k:IntKind) (w wr:World) (g:Nat) (t:TypeId) (n:Nat) (o:Nat->Nat):Prop:=Below w.heap.size w wr/\Lw k wr g t n o/\w.heap.size<=g/\∀ j,j<n->o j<1000000000
theorem Rb.set {k:IntKind} {w wr:World} {g n:Nat} {t:TypeId} {o:Nat->Nat} (h:Rb k w wr g t n o) (i v:Nat) (hv:v<1000000000):Rb k w (wr.setCell ⟨g,i,none⟩ (.int k ((v:Nat):Int))) g t n (upd o i v):=
 ⟨h.1.setCell h.2.2.1 _,h.2.1.set i v,h.2.2.1,fun j hj=>by unfold upd;split;exact hv;exact h.2.2.2 j hj⟩
theorem Rb.made (k:IntKind) (w:World) (n:Nat) (t:TypeId):Rb k w (w.alloc (.cells (madeCells #[.int k 0] n) t)) w.heap.size t n (fun _=>0):=
 ⟨(Below.refl _ _).alloc (Nat.le_refl _) _,Lw.made k w n t,Nat.le_refl _,fun _ _=>(by decide:(0:Nat)<1000000000)⟩
def GiveO (k:IntKind) (t:TypeId) (w:World) (a:Nat) (e:Ending) (w':World):Prop:=∃ g n o,e=.returned (.slice (some ⟨g,0,none⟩) (nd a) n)/\Rb k w w' g t n o/\sumTo o n=a
theorem GiveO.n {k:IntKind} {t:TypeId} {w w':World} {a:Nat} {e:Ending} (h:GiveO k t w a e w'):GiveN k w a e w':=by
 obtain⟨g,n,o,he,hr,hs⟩:=h
 refine⟨_,_,he,?_,hr.1⟩
 have h1:=yhm hr.2.2.2
 have h2:=(hr.2.1.fs (Nat.le_refl n) (Nat.le_refl n)).trimmed hr.2.2.2 h1
 rw[hs] at h2
 exact h2
def SumW (k:IntKind) (w wr:World) (g:Nat) (t:TypeId) (n i S:Nat) (C:Nat):Prop:=∃ o,Rb k w wr g t n o/\sumTo o i+C=S
theorem yoo (A:Option Addr) (c a m:Nat) (w:World) (h:Nt .u32 w w.heap.size A c a) (hn:nd a<=1000000) (hm0:0<m) (hm:m<=1000000000) :
  Calls Tryz.prog 239 #[.slice A (nd a) c,.int .u64 m] w (GiveO .u32 226 w (a*m)):=by
 have hmk:=fun w=>run_make_row' (P:=Tryz.prog) 176 226 (.int .u32 0) 4 Tryz.underlying176 Tryz.infoU32 rfl .i64 .i64 (nd a+1) (by omega) (by omega) w
 push_cast at hmk
 have H:=zh h
 unfold Nt at H
 have R0:Hid (SumW .u32 w (w.alloc (.cells (madeCells #[.int .u32 0] (nd a+1)) 226)) w.heap.size 226 (nd a+1) 0 (a % pw 0*m) (0*pw 0)):=
  ⟨_,Rb.made .u32 w (nd a+1) 226,by rw[ybb,Nat.mod_one];simp[sumTo]⟩
 have HA:=zh (yb4 (Nat.le_refl (nd a)))
 clear h
 generalize hN:nd a=n at *
 have HN:=zh hN
 clear hN
 go_enter Tryz.func239,Tryz.ntmps239
 go_wp2
 clear hmk
 go_loopw [6,16] (fun r i wr=>∃ k cy:Nat,k<=n/\i=.int .i64 (k:Int)/\r=.int .u64 (cy:Int)/\cy<m/\Hid (SumW .u32 w wr w.heap.size 226 (n+1) k (a % pw k*m) (cy*pw k))) (fun _ i _=>(n - intOf i).toNat)
 case atStart=>exact⟨0,0,Nat.zero_le _,rfl,rfl,hm0,R0⟩
 case round=>
  clear R0
  obtain⟨k,cy,hk,rfl,rfl,hcy,hR⟩:=hrel
  obtain⟨o,hO,hS⟩:=hR.out
  have HO:=zh hO
  have tc:=hO.2.1.cell (show k<n+1 by omega)
  have tf:=hO.2.1.frozen k
  clear hR
  by_cases hk0:k=n
  ·subst hk0
   have h2:=hO.set k cy (by omega)
   have hs:sumTo (upd o k cy) (k+1)=a*m:=by
    rw[HA.out] at hS
    show sumTo (upd o k cy) k+upd o k cy k*pw k=a*m
    rw[yam o cy (Nat.le_refl _),ycd];exact hS
   have T1:=ybo (some ⟨w.heap.size,0,none⟩) (k+1) (k+1) (upd o k cy) _ (h2.2.1.fs (Nat.le_refl _) (Nat.le_refl _)) h2.2.2.2 (by omega)
   rw[hs] at T1
   have H2:=zh h2
   have HS:=zh hs
   clear h2 hs hS hO HO
   generalize o k=z at *
   go_wp2_with (go_at_call 209;(with_reducible refine T1.mono ?_);rintro e w1 ⟨rfl,rfl⟩)
   go_ret
   exact⟨w.heap.size,k+1,_,rfl,H2.out,HS.out⟩
  ·obtain⟨b,off,rfl,hlt,q1⟩:=H.out.at_ (show k<n by omega)
   have q2:wr.cell? ⟨b,off+k,none⟩=some (.int .u32 (dg a k:Int)):=(hO.1.cell (p:=⟨b,off+k,none⟩) hlt).trans q1
   have hd:=dg_lt a k
   have hp1:dg a k*m<=999999999*m:=Nat.mul_le_mul_right _ (by omega)
   obtain⟨v,hv⟩:∃ v,v=(dg a k*m+cy) % 1000000000:=⟨_,rfl⟩
   obtain⟨cy',hc'⟩:∃ cy',cy'=(dg a k*m+cy) / 1000000000:=⟨_,rfl⟩
   have h2:=hO.set k v (by omega)
   have hs:sumTo (upd o k v) (k+1)+cy'*pw (k+1)=a % pw (k+1)*m:=by
    show sumTo (upd o k v) k+upd o k v k*pw k+cy'*pw (k+1)=_
    rw[yam o v (Nat.le_refl _),ycd]
    exact yhq hS (by omega)
   have H2:=zh (show SumW .u32 w _ w.heap.size 226 (n+1) (k+1) (a % pw (k+1)*m) (cy'*pw (k+1)) from⟨_,h2,hs⟩)
   have eP:(dg a k:Int)*(m:Int)=((dg a k*m:Nat):Int):=(Int.natCast_mul _ _).symm
   generalize dg a k*m=p at *
   generalize dg a k=d at *
   clear q1 hs h2 hS hO HO
   generalize o k=z at *
   have b1:(p:Int)<=999999999000000000:=by omega
   have b2:(cy:Int)<=999999999:=by omega
   have b3:(v:Int)<=999999999:=by omega
   have b4:(cy':Int)<=999999999:=by omega
   have hcm:cy'<m:=by omega
   have e1:((p:Int)+(cy:Int)) % 1000000000=(v:Int):=by omega
   have E2:=zh (show ((p:Int)+(cy:Int)) / 1000000000=(cy':Int) by omega)
   have i1:k<n:=by omega
   clear hv hc' hp1 hk0
   go_wp2
   go_roundw
   case rel=>exact⟨k+1,cy',by omega,by go_num,by rw[E2.out],hcm,H2⟩
   case measure=>simp[intOf];omega
theorem ye3 (A:Option Addr) (c a:Nat) (w:World) :
  Calls Tryz.prog 207 #[.slice A (nd a) c] w fun e w'=>e=.returned (.bool (decide (a=0)))/\w'=w:=by
 have he:decide (a=0)=decide (nd a=0):=by rw[decide_eq_decide];exact nd_eq_zero.symm
 rw[he]
 generalize nd a=n at *
 clear he
 go_enter Tryz.func207,Tryz.ntmps207
 go_wp2
 go_ret
 exact⟨by rw[show ((n:Int)==0)=decide (n=0) by rw[Bool.eq_iff_iff];simp];rfl,rfl⟩
theorem one_is {a:Nat} (h1:nd a=1) (h2:dg a 0=1):a=1:=by
 have:=yi0 (show nd a<=1 by omega)
 rw[ygi this] at h2
 exact h2
theorem nd_1:nd 1=1:=by rw[ydp (by decide)];show nd 0+1=1;rw[yar]
theorem dg_1:dg 1 0=1:=ygi (by decide)
theorem ydb (A:Option Addr) (c a:Nat) (w:World) (h:Nt .u32 w w.heap.size A c a) :
  Calls Tryz.prog 206 #[.slice A (nd a) c] w fun e w'=>e=.returned (.bool (decide (a=1)))/\w'=w:=by
 have H:=zh h
 unfold Nt at H
 clear h
 by_cases h1:nd a=1
 ·have hat:=H.out.at_ (show 0<nd a by omega)
  obtain⟨b,off,rfl,_,hc⟩:=hat
  rw[Nat.add_zero] at hc
  rw[h1]
  by_cases h2:dg a 0=1
  ·have e:decide (a=1)=true:=decide_eq_true (one_is h1 h2)
   rw[e]
   rw[h2] at hc
   clear e h2 h1 H
   go_enter Tryz.func206,Tryz.ntmps206
   go_wp2
   go_ret
   exact⟨rfl,rfl⟩
  ·have e:decide (a=1)=false:=decide_eq_false (fun e=>h2 (by rw[e,dg_1]))
   rw[e]
   clear e h1 H
   generalize dg a 0=d at *
   go_enter Tryz.func206,Tryz.ntmps206
   go_wp2
   go_ret
   exact⟨by simp;try omega,rfl⟩
 ·have e:decide (a=1)=false:=decide_eq_false (fun e=>h1 (by rw[e,nd_1]))
  rw[e]
  clear e H
  generalize nd a=n at *
  go_enter Tryz.func206,Tryz.ntmps206
  go_wp2
  go_ret
  exact⟨by simp;try omega,rfl⟩
theorem add_ge (A1 A2:Option Addr) (c1 c2 a b:Nat) (w:World) (h1:Nt .u32 w w.heap.size A1 c1 a) (h2:Nt .u32 w w.heap.size A2 c2 b) (hn1:nd a<=1000000) (hl:nd b<=nd a) :
  Calls Tryz.prog 250 #[.slice A1 (nd a) c1,.slice A2 (nd b) c2] w (GiveO .u32 226 w (a+b)):=by
 have hmk:=fun w=>run_make_row' (P:=Tryz.prog) 176 226 (.int .u32 0) 4 Tryz.underlying176 Tryz.infoU32 rfl .i64 .i64 (nd a+1) (by omega) (by omega) w
 push_cast at hmk
 have H1:=zh h1
 have H2:=zh h2
 unfold Nt at H1 H2
 have R0:Hid (SumW .u32 w (w.alloc (.cells (madeCells #[.int .u32 0] (nd a+1)) 226)) w.heap.size 226 (nd a+1) 0 (a % pw 0+b % pw 0) (0*pw 0)):=
  ⟨_,Rb.made .u32 w (nd a+1) 226,by rw[ybb,Nat.mod_one,Nat.mod_one];simp[sumTo]⟩
 have HA:=zh (yb4 (Nat.le_refl (nd a)))
 have HB:=zh (yb4 (show nd b<=nd a by omega))
 have HZ:=zh (fun k (hk:nd b<=k)=>ydu hk)
 clear h1 h2
 generalize hN:nd a=n at *
 have HN:=zh hN
 clear hN
 generalize hM:nd b=m at *
 have HM:=zh hM
 clear hM
 have hl':¬n<m:=by omega
 go_enter Tryz.func250,Tryz.ntmps250
 go_wp2
 clear hmk
 go_loopw [6,23] (fun r i wr=>∃ k cy:Nat,k<=n/\i=.int .i64 (k:Int)/\r=.int .u32 (cy:Int)/\cy<=1/\Hid (SumW .u32 w wr w.heap.size 226 (n+1) k (a % pw k+b % pw k) (cy*pw k))) (fun _ i _=>(n - intOf i).toNat)
 case atStart=>exact⟨0,0,Nat.zero_le _,rfl,rfl,by omega,R0⟩
 case round=>
  clear R0
  obtain⟨k,cy,hk,rfl,rfl,hcy,hR⟩:=hrel
  obtain⟨o,hO,hS⟩:=hR.out
  have HO:=zh hO
  have tc:=hO.2.1.cell (show k<n+1 by omega)
  have tf:=hO.2.1.frozen k
  clear hR
  by_cases hk0:k=n
  ·subst hk0
   have h2:=hO.set k cy (by omega)
   have hs:sumTo (upd o k cy) (k+1)=a+b:=by
    rw[HA.out,HB.out] at hS
    show sumTo (upd o k cy) k+upd o k cy k*pw k=a+b
    rw[yam o cy (Nat.le_refl _),ycd];exact hS
   have T1:=ybo (some ⟨w.heap.size,0,none⟩) (k+1) (k+1) (upd o k cy) _ (h2.2.1.fs (Nat.le_refl _) (Nat.le_refl _)) h2.2.2.2 (by omega)
   rw[hs] at T1
   have G2:=zh h2
   have HS:=zh hs
   clear h2 hs hS hO HO
   generalize o k=z at *
   go_wp2_with (go_at_call 209;(with_reducible refine T1.mono ?_);rintro e w1 ⟨rfl,rfl⟩)
   go_ret
   exact⟨w.heap.size,k+1,_,rfl,G2.out,HS.out⟩
  ·obtain⟨b1,o1,rfl,hlt1,q1⟩:=H1.out.at_ (show k<n by omega)
   have p1:wr.cell? ⟨b1,o1+k,none⟩=some (.int .u32 (dg a k:Int)):=(hO.1.cell (p:=⟨b1,o1+k,none⟩) hlt1).trans q1
   have hd1:=dg_lt a k
   have hd2:=dg_lt b k
   obtain⟨v,hv⟩:∃ v,v=(dg a k+cy+dg b k) % 1000000000:=⟨_,rfl⟩
   obtain⟨cy',hc'⟩:∃ cy',cy'=(dg a k+cy+dg b k) / 1000000000:=⟨_,rfl⟩
   have h2:=hO.set k v (by omega)
   have hs:sumTo (upd o k v) (k+1)+cy'*pw (k+1)=a % pw (k+1)+b % pw (k+1):=by
    show sumTo (upd o k v) k+upd o k v k*pw k+cy'*pw (k+1)=_
    rw[yam o v (Nat.le_refl _),ycd]
    exact yl7 hS (by omega)
   have G2:=zh (show SumW .u32 w _ w.heap.size 226 (n+1) (k+1) (a % pw (k+1)+b % pw (k+1)) (cy'*pw (k+1)) from⟨_,h2,hs⟩)
   have hcm:cy'<=1:=by omega
   have i1:k<n:=by omega
   by_cases hkm:k<m
   ·obtain⟨b2,o2,rfl,hlt2,q2⟩:=H2.out.at_ hkm
    have p2:wr.cell? ⟨b2,o2+k,none⟩=some (.int .u32 (dg b k:Int)):=(hO.1.cell (p:=⟨b2,o2+k,none⟩) hlt2).trans q2
    generalize dg a k=x at *
    generalize dg b k=y at *
    clear q1 q2 hs h2 hS hO HO
    generalize o k=z at *
    have c1:(x:Int)<=999999999:=by omega
    have c2:(y:Int)<=999999999:=by omega
    have c3:(cy:Int)<=1:=by omega
    have c4:(v:Int)<=999999999:=by omega
    have e1:((x:Int)+(cy:Int)+(y:Int)) % 1000000000=(v:Int):=by omega
    have E2:=zh (show ((x:Int)+(cy:Int)+(y:Int)) / 1000000000=(cy':Int) by omega)
    clear hv hc' hk0
    go_wp2
    go_roundw
    case rel=>exact⟨k+1,cy',by omega,by go_num,by rw[E2.out],hcm,G2⟩
    case measure=>simp[intOf];omega
   ·have hy:=HZ.out k (by omega)
    rw[hy] at hv hc'
    generalize dg a k=x at *
    clear q1 hs h2 hS hO HO hy hd2
    generalize o k=z at *
    have c1:(x:Int)<=999999999:=by omega
    have c3:(cy:Int)<=1:=by omega
    have c4:(v:Int)<=999999999:=by omega
    have e1:((x:Int)+(cy:Int)) % 1000000000=(v:Int):=by omega
    have E2:=zh (show ((x:Int)+(cy:Int)) / 1000000000=(cy':Int) by omega)
    clear hv hc' hk0
    go_wp2
    go_roundw
    case rel=>exact⟨k+1,cy',by omega,by go_num,by rw[E2.out],hcm,G2⟩
    case measure=>simp[intOf];omega
theorem add_lt (A1 A2:Option Addr) (c1 c2 a b:Nat) (w:World) (h1:Nt .u32 w w.heap.size A1 c1 a) (h2:Nt .u32 w w.heap.size A2 c2 b) (hn1:nd a<=1000000) (hl:nd b<nd a) :
  Calls Tryz.prog 250 #[.slice A2 (nd b) c2,.slice A1 (nd a) c1] w (GiveO .u32 226 w (a+b)):=by
 have hmk:=fun w=>run_make_row' (P:=Tryz.prog) 176 226 (.int .u32 0) 4 Tryz.underlying176 Tryz.infoU32 rfl .i64 .i64 (nd a+1) (by omega) (by omega) w
 push_cast at hmk
 have H1:=zh h1
 have H2:=zh h2
 unfold Nt at H1 H2
 have R0:Hid (SumW .u32 w (w.alloc (.cells (madeCells #[.int .u32 0] (nd a+1)) 226)) w.heap.size 226 (nd a+1) 0 (a % pw 0+b % pw 0) (0*pw 0)):=
  ⟨_,Rb.made .u32 w (nd a+1) 226,by rw[ybb,Nat.mod_one,Nat.mod_one];simp[sumTo]⟩
 have HA:=zh (yb4 (Nat.le_refl (nd a)))
 have HB:=zh (yb4 (show nd b<=nd a by omega))
 have HZ:=zh (fun k (hk:nd b<=k)=>ydu hk)
 clear h1 h2
 generalize hN:nd a=n at *
 have HN:=zh hN
 clear hN
 generalize hM:nd b=m at *
 have HM:=zh hM
 clear hM
 have hl':m<n:=by omega
 go_enter Tryz.func250,Tryz.ntmps250
 go_wp2
 clear hmk
 go_loopw [6,23] (fun r i wr=>∃ k cy:Nat,k<=n/\i=.int .i64 (k:Int)/\r=.int .u32 (cy:Int)/\cy<=1/\Hid (SumW .u32 w wr w.heap.size 226 (n+1) k (a % pw k+b % pw k) (cy*pw k))) (fun _ i _=>(n - intOf i).toNat)
 case atStart=>exact⟨0,0,Nat.zero_le _,rfl,rfl,by omega,R0⟩
 case round=>
  clear R0
  obtain⟨k,cy,hk,rfl,rfl,hcy,hR⟩:=hrel
  obtain⟨o,hO,hS⟩:=hR.out
  have HO:=zh hO
  have tc:=hO.2.1.cell (show k<n+1 by omega)
  have tf:=hO.2.1.frozen k
  clear hR
  by_cases hk0:k=n
  ·subst hk0
   have h2:=hO.set k cy (by omega)
   have hs:sumTo (upd o k cy) (k+1)=a+b:=by
    rw[HA.out,HB.out] at hS
    show sumTo (upd o k cy) k+upd o k cy k*pw k=a+b
    rw[yam o cy (Nat.le_refl _),ycd];exact hS
   have T1:=ybo (some ⟨w.heap.size,0,none⟩) (k+1) (k+1) (upd o k cy) _ (h2.2.1.fs (Nat.le_refl _) (Nat.le_refl _)) h2.2.2.2 (by omega)
   rw[hs] at T1
   have G2:=zh h2
   have HS:=zh hs
   clear h2 hs hS hO HO
   generalize o k=z at *
   go_wp2_with (go_at_call 209;(with_reducible refine T1.mono ?_);rintro e w1 ⟨rfl,rfl⟩)
   go_ret
   exact⟨w.heap.size,k+1,_,rfl,G2.out,HS.out⟩
  ·obtain⟨b1,o1,rfl,hlt1,q1⟩:=H1.out.at_ (show k<n by omega)
   have p1:wr.cell? ⟨b1,o1+k,none⟩=some (.int .u32 (dg a k:Int)):=(hO.1.cell (p:=⟨b1,o1+k,none⟩) hlt1).trans q1
   have hd1:=dg_lt a k
   have hd2:=dg_lt b k
   obtain⟨v,hv⟩:∃ v,v=(dg a k+cy+dg b k) % 1000000000:=⟨_,rfl⟩
   obtain⟨cy',hc'⟩:∃ cy',cy'=(dg a k+cy+dg b k) / 1000000000:=⟨_,rfl⟩
   have h2:=hO.set k v (by omega)
   have hs:sumTo (upd o k v) (k+1)+cy'*pw (k+1)=a % pw (k+1)+b % pw (k+1):=by
    show sumTo (upd o k v) k+upd o k v k*pw k+cy'*pw (k+1)=_
    rw[yam o v (Nat.le_refl _),ycd]
    exact yl7 hS (by omega)
   have G2:=zh (show SumW .u32 w _ w.heap.size 226 (n+1) (k+1) (a % pw (k+1)+b % pw (k+1)) (cy'*pw (k+1)) from⟨_,h2,hs⟩)
   have hcm:cy'<=1:=by omega
   have i1:k<n:=by omega
   by_cases hkm:k<m
   ·obtain⟨b2,o2,rfl,hlt2,q2⟩:=H2.out.at_ hkm
    have p2:wr.cell? ⟨b2,o2+k,none⟩=some (.int .u32 (dg b k:Int)):=(hO.1.cell (p:=⟨b2,o2+k,none⟩) hlt2).trans q2
    generalize dg a k=x at *
    generalize dg b k=y at *
    clear q1 q2 hs h2 hS hO HO
    generalize o k=z at *
    have c1:(x:Int)<=999999999:=by omega
    have c2:(y:Int)<=999999999:=by omega
    have c3:(cy:Int)<=1:=by omega
    have c4:(v:Int)<=999999999:=by omega
    have e1:((x:Int)+(cy:Int)+(y:Int)) % 1000000000=(v:Int):=by omega
    have E2:=zh (show ((x:Int)+(cy:Int)+(y:Int)) / 1000000000=(cy':Int) by omega)
    clear hv hc' hk0
    go_wp2
    go_roundw
    case rel=>exact⟨k+1,cy',by omega,by go_num,by rw[E2.out],hcm,G2⟩
    case measure=>simp[intOf];omega
   ·have hy:=HZ.out k (by omega)
    rw[hy] at hv hc'
    generalize dg a k=x at *
    clear q1 hs h2 hS hO HO hy hd2
    generalize o k=z at *
    have c1:(x:Int)<=999999999:=by omega
    have c3:(cy:Int)<=1:=by omega
    have c4:(v:Int)<=999999999:=by omega
    have e1:((x:Int)+(cy:Int)) % 1000000000=(v:Int):=by omega
    have E2:=zh (show ((x:Int)+(cy:Int)) / 1000000000=(cy':Int) by omega)
    clear hv hc' hk0
    go_wp2
    go_roundw
    case rel=>exact⟨k+1,cy',by omega,by go_num,by rw[E2.out],hcm,G2⟩
    case measure=>simp[intOf];omega
theorem ysy (A1 A2:Option Addr) (c1 c2 a b:Nat) (w:World) (h1:Nt .u32 w w.heap.size A1 c1 a) (h2:Nt .u32 w w.heap.size A2 c2 b) (hn1:nd a<=1000000) (hn2:nd b<=1000000) :
  Calls Tryz.prog 250 #[.slice A1 (nd a) c1,.slice A2 (nd b) c2] w (GiveO .u32 226 w (a+b)):=by
 rcases Nat.lt_or_ge (nd a) (nd b) with h|h
 ·rw[Nat.add_comm];exact add_lt A2 A1 c2 c1 b a w h2 h1 hn2 h
 ·exact add_ge A1 A2 c1 c2 a b w h1 h2 hn1 h
theorem own_ge {w:World} {base e n g:Nat} {v:Value} {xs:List Value} (h:w.ownsRow base e 1 v n xs) (hg:v.ownBlock=some g):base<=g/\g<w.heap.size:=by
 rcases h.2 with ⟨rfl,_⟩|⟨g',cap,cur,rfl,hb,hgg,_⟩
 ·simp[Value.ownBlock] at hg
 ·simp[Value.ownBlock] at hg
  subst hg
  exact⟨hb,(Array.getElem?_eq_some_iff.1 hgg).1⟩
theorem yan {w0 w w':World} {n e:Nat} {v:Value} {xs:List Value} (h:w.ownsRow w0.heap.size e 1 v n xs) (hb:Below w0.heap.size w0 w) (hg:w.grownBy w' v.ownBlock):Below w0.heap.size w0 w':=by
 refine hb.trans ⟨hg.os,hg.tape,hg.output,hg.size,fun i hi=>hg.block i (Nat.lt_of_lt_of_le hi hb.size) fun e=>?_⟩
 have:=(own_ge h e.symm).1
 omega
def limbs (k:IntKind) (n:Nat) (o:Nat->Nat):List Value:=(List.range n).map fun j=>.int k ((o j:Nat):Int)
theorem yec (k:IntKind) (n:Nat) (o:Nat->Nat):limbs k (n+1) o=limbs k n o++[.int k ((o n:Nat):Int)]:=by unfold limbs;rw[List.range_succ,List.map_append];rfl
theorem ypm {k:IntKind} {w:World} {base n:Nat} {e:TypeId} {v:Value} {o:Nat->Nat} (h:w.ownsRow base e 1 v n (limbs k n o)):∃ A c,v=.slice A n c/\Fs k w w.heap.size A n c o:=by
 have hcells:=fun g=>h.cells (g:=g)
 rcases h.2 with ⟨hv,hn⟩|⟨g,cap,cur,hv,_,hg,hcap,_⟩
 ·subst hn
  exact⟨none,0,hv,Nat.le_refl _,fun _=>rfl,fun h=>absurd h (by omega)⟩
 ·refine⟨some ⟨g,0,none⟩,cap,hv,hcap,(fun e=>by cases e),fun _=>⟨g,0,rfl,(Array.getElem?_eq_some_iff.1 hg).1,fun j hj=>?_⟩⟩
  have hz:(limbs k n o)[j]?=some (.int k ((o j:Nat):Int)):=by
   unfold limbs
   rw[List.getElem?_map,List.getElem?_range hj];rfl
  have:=hcells g (by rw[hv];rfl) j _ hz
  have ha:(⟨g,0,none⟩:Addr).add j=⟨g,0+j,none⟩:=by unfold Addr.add;split<;>simp_all
  rw[ha] at this
  exact this
def AppW (k:IntKind) (w wr:World) (t:TypeId) (v:Value) (n:Nat) (o:Nat->Nat):Prop:=Below w.heap.size w wr/\wr.ownsRow w.heap.size t 1 v n (limbs k n o)
theorem nd_64 {a:Nat} (h:a<=18446744073709551615):nd a<=3:=nd_le (by show a<1000000000 ^ 3;omega)
theorem ymr (a:Nat) (ha:a<=18446744073709551615) (w:World) :
  Calls Tryz.prog 168 #[.int .u64 a] w (GiveN .u32 w a):=by
 obtain⟨i0,hi,hz0,hz1,hz2⟩:=info_parts Tryz.infoU32
 have hn3:=nd_64 ha
 have R0:Hid (AppW .u32 w w 226 (.slice none 0 0) 0 (dg a)):=⟨Below.refl _ _,World.ownsRow_nil w w.heap.size 226 1⟩
 have HA:=zh (show a=a / pw 0 by rw[ybb,Nat.div_one])
 go_enter Tryz.func168,Tryz.ntmps168
 go_wp2
 go_loopw [0,3] (fun i v wr=>∃ k:Nat,k<=nd a/\i=.int .u64 ((a / pw k:Nat):Int)/\Hid (AppW .u32 w wr 226 v k (dg a))) (fun i _ _=>(intOf i).toNat)
 case atStart=>exact⟨0,Nat.zero_le _,by rw[<- HA.out],R0⟩
 case round=>
  clear R0
  obtain⟨k,hk,rfl,hR⟩:=hrel
  by_cases h0:a / pw k=0
  ·have hkn:k=nd a:=by
    rcases Nat.lt_or_ge k (nd a) with h1|h1
    ·have h2:=yd6 (show a≠0 by rintro rfl;rw[yar] at h1;omega)
     have h3:=pw_le (show k<=nd a - 1 by omega)
     have h4:0<a / pw k:=Nat.div_pos (Nat.le_trans h3 h2) (yc8 _)
     omega
    ·omega
   have HK:=zh hkn
   rw[h0]
   clear h0 hkn
   go_wp2
   go_ret
   obtain⟨A,c,e1,e2⟩:=ypm hR.out.2
   rw[HK.out] at e1 e2
   exact⟨A,c,by rw[e1];rfl,e2,hR.out.1⟩
  ·have hkn:k<nd a:=by
    rcases Nat.lt_or_ge k (nd a) with h1|h1
    ·exact h1
    ·rw[yd8 h1] at h0;omega
   have HD:=zh (yif a k)
   have hx:a / pw k<=a:=Nat.div_le_self _ _
   have hdg:dg a k=a / pw k % 1000000000:=rfl
   have hdl:=dg_lt a k
   generalize a / pw k=x at *
   obtain⟨d,HG'⟩:∃ d,dg a k=d:=⟨_,rfl⟩
   rw[HG'] at hdg hdl
   have HG:=zh HG'
   clear HG'
   have e1:(x:Int) % 1000000000=(d:Int):=by omega
   have b1:(0:Int)<(x:Int):=by omega
   have b2:(d:Int)<=999999999:=by omega
   have b3:IntKind.u64.wrap ((x:Int) / 1000000000)=(x:Int) / 1000000000:=IntWalk.u64_in _ (by constructor<;>omega)
   have hB:=zh hR.out.1
   have hO:=zh hR.out.2
   clear hdg hdl h0 hR hx
   go_wp2_with (at_builtin;refine wpList_append_own_at _ rfl (.tmp 8) (.tmp 12) _ rfl w.heap.size 226 i0 (.int .u32 0) 1 4 Tryz.underlying176 hi hz0 hz1 hz2 rfl (by decide) _ _ _ rfl (hO.out.alloc _) ⟨wr.heap.size,0,none⟩ 1 1 [.int .u32 (d:Int)] rfl rfl (cell_one_new _ _ _) (ints_oneCell .u32 [(d:Int)]) (by unfold maxLen;omega) (by omega) (yaa hB.out _).size ?_;intro v2 w2 a2 g2 m2 l2;have B2:=zh (yan (hO.out.alloc _) (yaa hB.out _) g2);have A2:=zh a2;clear a2 g2 m2 l2)
   go_roundw
   case rel=>
    refine⟨k+1,by omega,by rw[HD.out];rfl,B2.out,?_⟩
    have R:=A2.out
    rw[yec,HG.out]
    exact R
   case measure=>simp[intOf];omega
theorem yrk (A1 A2:Option Addr) (c1 c2 a b:Nat) (w:World) (h1:Nt .u32 w w.heap.size A1 c1 a) (h2:Nt .u32 w w.heap.size A2 c2 b) (hn1:nd a<=1000000) (hn2:nd b<=1000000) (ha0:a≠0) (hb0:b≠0) (ha1:a≠1) (hb1:b≠1) :
  Calls Tryz.prog 172 #[.slice A1 (nd a) c1,.slice A2 (nd b) c2] w (GiveO .u32 226 w (a*b)):=by
 have hmk:=fun w=>run_make_row' (P:=Tryz.prog) 176 226 (.int .u32 0) 4 Tryz.underlying176 Tryz.infoU32 rfl .i64 .i64 (nd a+nd b) (by omega) (by omega) w
 push_cast at hmk
 have H1:=zh h1
 have H2:=zh h2
 unfold Nt at H1 H2
 have R0:Hid (SumW .u32 w (w.alloc (.cells (madeCells #[.int .u32 0] (nd a+nd b)) 226)) w.heap.size 226 (nd a+nd b) (0+nd b) (a % pw 0*b) 0):=
  ⟨_,Rb.made .u32 w (nd a+nd b) 226,by rw[ybb,Nat.mod_one,yhj (fun _ _=>rfl)];simp⟩
 have HA:=zh (yb4 (Nat.le_refl (nd a)))
 have HB:=zh (yb4 (Nat.le_refl (nd b)))
 have z1:nd a≠0:=fun e=>ha0 (nd_eq_zero.1 e)
 have z2:nd b≠0:=fun e=>hb0 (nd_eq_zero.1 e)
 have t1:(((nd a:Nat):Int)==0)=false:=by rw[beq_eq_false_iff_ne];omega
 have t2:(((nd b:Nat):Int)==0)=false:=by rw[beq_eq_false_iff_ne];omega
 have O1:=(ydb A1 c1 a w h1).mono (fun e w' h=>(⟨h.1,h.2.symm⟩:e=.returned (.bool (decide (a=1)))/\w=w'))
 have O2:=(ydb A2 c2 b w h2).mono (fun e w' h=>(⟨h.1,h.2.symm⟩:e=.returned (.bool (decide (b=1)))/\w=w'))
 rw[decide_eq_false ha1] at O1
 rw[decide_eq_false hb1] at O2
 clear ha0 hb0 ha1 hb1
 clear h1 h2
 generalize hN:nd a=n at *
 have HN:=zh hN
 clear hN
 generalize hM:nd b=m at *
 have HM:=zh hM
 clear hM
 go_enter Tryz.func172,Tryz.ntmps172
 go_wp2_with (first|(go_at_call 206;(with_reducible refine O2.mono ?_);rintro e w' ⟨rfl,rfl⟩)|(go_at_call 206;(with_reducible refine O1.mono ?_);rintro e w' ⟨rfl,rfl⟩))
 clear O1 O2
 clear hmk
 go_loopw [34] (fun i wr=>∃ k:Nat,k<=n/\i=.int .i64 (k:Int)/\Hid (SumW .u32 w wr w.heap.size 226 (n+m) (k+m) (a % pw k*b) 0)) (fun i _=>(n - intOf i).toNat)
 case atStart=>exact⟨0,Nat.zero_le _,rfl,R0⟩
 case round=>
  clear R0
  obtain⟨k,hk,rfl,hR⟩:=hrel
  by_cases hk0:k=n
  ·subst hk0
   obtain⟨o,hO,hS⟩:=hR.out
   rw[HA.out] at hS
   have T1:=ybo (some ⟨w.heap.size,0,none⟩) (k+m) (k+m) o wr (hO.2.1.fs (Nat.le_refl _) (Nat.le_refl _)) hO.2.2.2 (by omega)
   have hs:sumTo o (k+m)=a*b:=by omega
   rw[hs] at T1
   have G2:=zh hO
   have HS:=zh hs
   clear hs hS hO hR
   go_wp2_with (go_at_call 209;(with_reducible refine T1.mono ?_);rintro e w1 ⟨rfl,rfl⟩)
   go_ret
   exact⟨w.heap.size,k+m,_,rfl,G2.out,HS.out⟩
  ·obtain⟨b1,o1,rfl,hlt1,q1⟩:=H1.out.at_ (show k<n by omega)
   have p1:wr.cell? ⟨b1,o1+k,none⟩=some (.int .u32 (dg a k:Int)):=(hR.out.elim fun o h=>h.1.1.cell (p:=⟨b1,o1+k,none⟩) hlt1).trans q1
   have i1:k<n:=by omega
   have hdx:=dg_lt a k
   obtain⟨x,HX'⟩:∃ x,dg a k=x:=⟨_,rfl⟩
   rw[HX'] at p1 hdx
   have HX:=zh HX'
   clear HX' q1 hk0
   have S0:Hid (SumW .u32 w wr w.heap.size 226 (n+m) (k+m) (a % pw k*b+x*pw k*(b % pw 0)) (0*pw (k+0))):=by
    obtain⟨o,hO,hS⟩:=hR.out
    exact⟨o,hO,by rw[ybb,Nat.mod_one];omega⟩
   go_wp2
   go_loopw [8,41] (fun r i wi=>∃ j cy:Nat,j<=m/\i=.int .i64 (j:Int)/\r=.int .u64 (cy:Int)/\cy<1000000000/\Hid (SumW .u32 w wi w.heap.size 226 (n+m) (k+m) (a % pw k*b+x*pw k*(b % pw j)) (cy*pw (k+j)))) (fun _ i _=>(m - intOf i).toNat)
   case atStart=>exact⟨0,0,Nat.zero_le _,rfl,rfl,by omega,S0⟩
   case round=>
    clear S0 hR p1
    obtain⟨j,cy,hj,rfl,rfl,hcy,hI⟩:=hrel
    obtain⟨o,hO,hS⟩:=hI.out
    clear hI
    by_cases hj0:j=m
    ·subst hj0
     have tc:=hO.2.1.cell (show k+j<n+j by omega)
     have tf:=hO.2.1.frozen (k+j)
     have h2:=hO.set (k+j) cy hcy
     have hs:sumTo (upd o (k+j) cy) (k+1+j)+0=a % pw (k+1)*b:=by
      rw[HB.out] at hS
      rw[show k+1+j=k+j+1 by omega]
      show sumTo (upd o (k+j) cy) (k+j)+upd o (k+j) cy (k+j)*pw (k+j)+0=_
      rw[yam o cy (Nat.le_refl _),ycd,<- ytp,HX.out]
      omega
     have G2:=zh (show SumW .u32 w _ w.heap.size 226 (n+j) (k+1+j) (a % pw (k+1)*b) 0 from⟨_,h2,hs⟩)
     generalize o (k+j)=z at *
     have u0:(0:Int)<=(k:Int)+(j:Int):=by omega
     have u1:((k:Int)+(j:Int)).toNat=k+j:=by omega
     have u2:(k:Int)+(j:Int)<(n:Int)+(j:Int):=by omega
     have c1:(cy:Int)<=999999999:=by omega
     clear h2 hs hS hO
     go_wp2
     go_roundw
     case rel=>exact⟨k+1,by omega,by go_num,G2⟩
     case measure=>simp[intOf];omega
    ·obtain⟨b2,o2,rfl,hlt2,q2⟩:=H2.out.at_ (show j<m by omega)
     have p2:wr.cell? ⟨b2,o2+j,none⟩=some (.int .u32 (dg b j:Int)):=(hO.1.cell (p:=⟨b2,o2+j,none⟩) hlt2).trans q2
     have tc:=hO.2.1.cell (show k+j<n+m by omega)
     have tf:=hO.2.1.frozen (k+j)
     have hdy:=dg_lt b j
     have hz:=hO.2.2.2 (k+j) (by omega)
     have hxy:x*dg b j<=999999999*999999999:=Nat.mul_le_mul (by omega) (by omega)
     obtain⟨v,hv⟩:∃ v,v=(x*dg b j+o (k+j)+cy) % 1000000000:=⟨_,rfl⟩
     obtain⟨cy',hc'⟩:∃ cy',cy'=(x*dg b j+o (k+j)+cy) / 1000000000:=⟨_,rfl⟩
     have h2:=hO.set (k+j) v (by omega)
     have hs:sumTo (upd o (k+j) v) (k+m)+cy'*pw (k+(j+1))=a % pw k*b+x*pw k*(b % pw (j+1)):=
      yqj hS (yi2 o v (show k+j<k+m by omega)) (by omega)
     have G2:=zh (show SumW .u32 w _ w.heap.size 226 (n+m) (k+m) (a % pw k*b+x*pw k*(b % pw (j+1))) (cy'*pw (k+(j+1))) from⟨_,h2,hs⟩)
     have eP:(x:Int)*(dg b j:Int)=((x*dg b j:Nat):Int):=(Int.natCast_mul _ _).symm
     have hcm:cy'<1000000000:=by omega
     have i2:j<m:=by omega
     generalize x*dg b j=p at *
     generalize dg b j=y at *
     generalize o (k+j)=z at *
     have u0:(0:Int)<=(k:Int)+(j:Int):=by omega
     have u1:((k:Int)+(j:Int)).toNat=k+j:=by omega
     have u2:(k:Int)+(j:Int)<(n:Int)+(m:Int):=by omega
     have c1:(p:Int)<=999999998000000001:=by omega
     have c2:(cy:Int)<=999999999:=by omega
     have c3:(z:Int)<=999999999:=by omega
     have c4:(v:Int)<=999999999:=by omega
     have c5:(y:Int)<=999999999:=by omega
     have c6:(x:Int)<=999999999:=by omega
     have e1:((p:Int)+(z:Int)+(cy:Int)) % 1000000000=(v:Int):=by omega
     have E2:=zh (show ((p:Int)+(z:Int)+(cy:Int)) / 1000000000=(cy':Int) by omega)
     clear hv hc' hxy hz hdy hj0 q2 h2 hs hS hO
     go_wp2
     go_roundw
     case rel=>exact⟨j+1,cy',by omega,by go_num,by rw[E2.out],hcm,G2⟩
     case measure=>simp[intOf];omega
theorem yb5 (A1 A2:Option Addr) (c1 c2 a b:Nat) (w:World) (h1:Nt .u32 w w.heap.size A1 c1 a) (h2:Nt .u32 w w.heap.size A2 c2 b) (hn1:nd a<=1000000) (hn2:nd b<=1000000) :
  Calls Tryz.prog 172 #[.slice A1 (nd a) c1,.slice A2 (nd b) c2] w (GiveN .u32 w (a*b)):=by
 by_cases ha0:a=0
 ·subst ha0
  have z:Nt .u32 w w.heap.size none 0 (0*b):=by rw[Nat.zero_mul];unfold Nt;rw[yar];exact Fs.nil _ _ _ _
  have R:=zh (show GiveN .u32 w (0*b) (.returned (.slice none 0 0)) w from⟨none,0,by rw[Nat.zero_mul,yar],z,Below.refl _ _⟩)
  rw[yar]
  generalize 0*b=p at *
  generalize nd b=m at *
  clear z h1 h2
  go_enter Tryz.func172,Tryz.ntmps172
  go_wp2
  go_ret
  exact R.out
 by_cases hb0:b=0
 ·subst hb0
  have z:Nt .u32 w w.heap.size none 0 (a*0):=by rw[Nat.mul_zero];unfold Nt;rw[yar];exact Fs.nil _ _ _ _
  have R:=zh (show GiveN .u32 w (a*0) (.returned (.slice none 0 0)) w from⟨none,0,by rw[Nat.mul_zero,yar],z,Below.refl _ _⟩)
  have t1:(((nd a:Nat):Int)==0)=false:=by rw[beq_eq_false_iff_ne];have h3:nd a≠0:=fun e=>ha0 (nd_eq_zero.1 e);omega
  rw[yar]
  generalize a*0=p at *
  generalize nd a=m at *
  clear z h1 h2 ha0
  go_enter Tryz.func172,Tryz.ntmps172
  go_wp2
  all_goals
   go_ret
   exact R.out
 have z1:nd a≠0:=fun e=>ha0 (nd_eq_zero.1 e)
 have z2:nd b≠0:=fun e=>hb0 (nd_eq_zero.1 e)
 have t1:(((nd a:Nat):Int)==0)=false:=by rw[beq_eq_false_iff_ne];omega
 have t2:(((nd b:Nat):Int)==0)=false:=by rw[beq_eq_false_iff_ne];omega
 have O1:=(ydb A1 c1 a w h1).mono (fun e w' h=>(⟨h.1,h.2.symm⟩:e=.returned (.bool (decide (a=1)))/\w=w'))
 have O2:=(ydb A2 c2 b w h2).mono (fun e w' h=>(⟨h.1,h.2.symm⟩:e=.returned (.bool (decide (b=1)))/\w=w'))
 by_cases hb1:b=1
 ·subst hb1
  have R:=zh (show GiveN .u32 w (a*1) (.returned (.slice A1 (nd a) c1)) w from⟨A1,c1,by rw[Nat.mul_one],by rw[Nat.mul_one];exact h1,Below.refl _ _⟩)
  rw[decide_eq_true rfl] at O2
  generalize a*1=p at *
  generalize nd a=m at *
  generalize nd 1=m' at *
  clear h1 h2 ha0 hb0 O1
  go_enter Tryz.func172,Tryz.ntmps172
  go_wp2_with (first|(go_at_call 206;(with_reducible refine O2.mono ?_);rintro e w' ⟨rfl,rfl⟩))
  go_ret
  exact R.out
 by_cases ha1:a=1
 ·subst ha1
  have R:=zh (show GiveN .u32 w (1*b) (.returned (.slice A2 (nd b) c2)) w from⟨A2,c2,by rw[Nat.one_mul],by rw[Nat.one_mul];exact h2,Below.refl _ _⟩)
  rw[decide_eq_true rfl] at O1
  rw[decide_eq_false hb1] at O2
  generalize 1*b=p at *
  generalize nd b=m at *
  generalize nd 1=m' at *
  clear h1 h2 ha0 hb0 hb1
  go_enter Tryz.func172,Tryz.ntmps172
  go_wp2_with (first|(go_at_call 206;(with_reducible refine O2.mono ?_);rintro e w' ⟨rfl,rfl⟩)|(go_at_call 206;(with_reducible refine O1.mono ?_);rintro e w' ⟨rfl,rfl⟩))
  go_ret
  exact R.out
 exact(yrk A1 A2 c1 c2 a b w h1 h2 hn1 hn2 ha0 hb0 ha1 hb1).mono fun e w' h=>h.n
theorem yjq (k:IntKind) (n:Nat) (o:Nat->Nat):∀ u ∈ limbs k n o,u.oneCell'=true:=by
 intro u hu
 unfold limbs at hu
 obtain⟨x,_,rfl⟩:=List.mem_map.1 hu
 rfl
theorem ybc (k:IntKind) (n:Nat) (o:Nat->Nat):(limbs k n o).length=n:=by unfold limbs;simp
theorem ymk {k:IntKind} {n j:Nat} {o:Nat->Nat} {u:Value} (h:(limbs k n o)[j]?=some u):j<n/\u=.int k ((o j:Nat):Int):=by
 have hj:j<n:=by have:=(List.getElem?_eq_some_iff.1 h).1;rwa [ybc] at this
 unfold limbs at h
 rw[List.getElem?_map,List.getElem?_range hj] at h
 exact⟨hj,by simpa using h.symm⟩
theorem ypo (A:Option Addr) (n c:Nat) (o:Nat->Nat) (w:World) (h:Fs .u32 w w.heap.size A n c o) (hn:n<=1000000) :
  Calls Tryz.prog 263 #[.slice A n c] w fun e w'=>∃ v,e=.returned v/\AppW .u32 w w' 226 v n o:=by
 obtain⟨i0,hi,hz0,hz1,hz2⟩:=info_parts Tryz.infoU32
 have q22:∀ (w:World) (a:Option Addr) (n c n' c':Nat),(binOp .eql 176 (.slice a n c) (.slice none n' c')).run Tryz.prog w=.ok (.bool a.isNone) w:=fun w a n c n' c'=>Lib.run_eql_slice_nil w _ _ a n c n' c' Tryz.underlying176
 have H:=zh h
 clear h
 cases A with
 | none=>
  have hc:=H.out.2.1 rfl
  have hnc:=H.out.1
  have h0:n=0:=by omega
  subst h0 hc
  clear hnc
  go_enter Tryz.func263,Tryz.ntmps263
  go_wp2
  go_ret
  exact⟨_,rfl,Below.refl _ _,World.ownsRow_nil w w.heap.size 226 1⟩
 | some ad=>
  have hcells:Hid (∀ j u,(limbs .u32 n o)[j]?=some u->(w.alloc (.cells #[] 226)).cell? (ad.add j)=some u):=by
   intro j u hu
   obtain⟨hj,rfl⟩:=ymk hu
   obtain⟨b,off,e,hlt,hc⟩:=H.out.at_ hj
   injection e with e
   subst e
   have ha:(⟨b,off,none⟩:Addr).add j=⟨b,off+j,none⟩:=by unfold Addr.add;split<;>simp_all
   rw[ha]
   exact(World.cell?_alloc_lt w _ ⟨b,off+j,none⟩ hlt).trans hc
  go_enter Tryz.func263,Tryz.ntmps263
  go_wp2_with (at_builtin;refine wpList_append_own_at _ rfl _ _ 176 rfl w.heap.size 226 i0 (.int .u32 0) 1 4 Tryz.underlying176 hi hz0 hz1 hz2 rfl (by decide) _ _ _ rfl (World.ownsRow_made w #[] 0 (Nat.le_refl _) (Nat.zero_le _) rfl) ad n c (limbs .u32 n o) rfl (by rw[ybc];omega) hcells.out (yjq _ _ _) (by unfold maxLen;omega) (by omega) (by simp) ?_;intro v2 w2 a2 g2 m2 l2;have B2:=zh (yan (World.ownsRow_made w #[] 0 (Nat.le_refl _) (Nat.zero_le _) rfl) ((Below.refl _ w).alloc (Nat.le_refl _) _) g2);have A2:=zh a2;clear a2 g2 m2 l2)
  go_ret
  exact⟨v2,rfl,B2.out,by have:=A2.out;simpa using this⟩
theorem ymo {k:IntKind} {w:World} {base n:Nat} {e:TypeId} {v:Value} {o:Nat->Nat} (h:w.ownsRow base e 1 v n (limbs k n o)) (hn:0<n) :
  ∃ g c,v=.slice (some ⟨g,0,none⟩) n c/\n<=c/\base<=g/\Lw k w g e n o:=by
 have hcells:=fun g=>h.cells (g:=g)
 rcases h.2 with ⟨_,h0⟩|⟨g,cap,cur,hv,hb,hg,hcap,_,hcs,htk⟩
 ·omega
 ·refine⟨g,cap,hv,hcap,hb,cur,hg,by omega,fun i hi=>?_⟩
  have hz:(limbs k n o)[i]?=some (.int k ((o i:Nat):Int)):=by
   unfold limbs
   rw[List.getElem?_map,List.getElem?_range hi];rfl
  have h1:=hcells g (by rw[hv];rfl) i _ hz
  have ha:(⟨g,0,none⟩:Addr).add i=⟨g,i,none⟩:=by unfold Addr.add;split<;>simp_all
  rw[ha] at h1
  simp[World.cell?,hg] at h1
  exact h1
def SubW (w wr:World) (g:Nat) (t:TypeId) (n k a b c:Nat):Prop:=∃ o,Rb .u32 w wr g t n o/\(∀ j,k<=j->j<n->o j=dg a j)/\sumTo o k+b % pw k=a % pw k+c*pw k
theorem ylf (A1 A2:Option Addr) (c1 c2 a b:Nat) (w:World) (h1:Nt .u32 w w.heap.size A1 c1 a) (h2:Nt .u32 w w.heap.size A2 c2 b) (hab:b<=a) (hn1:nd a<=1000000) :
  Calls Tryz.prog 251 #[.slice A1 (nd a) c1,.slice A2 (nd b) c2] w (GiveN .u32 w (a - b)):=by
 have CL:=ypo A1 (nd a) c1 (dg a) w h1 hn1
 have HA:=zh (yb4 (Nat.le_refl (nd a)))
 have HB:=zh (yb4 (ybi hab))
 have H2:=zh h2
 unfold Nt at H2
 have HAB:=zh hab
 have hmn:=ybi hab
 have HZ:=zh (fun k (hk:nd b<=k)=>ydu hk)
 clear h1 h2 hab
 by_cases h0:nd a=0
 ·have ha0:a=0:=nd_eq_zero.1 h0
  have hd:a - b=0:=by omega
  rw[hd]
  have hnb:nd b=0:=by omega
  rw[h0] at CL ⊢
  rw[hnb]
  clear hmn hd HA HB HAB HZ ha0 hnb h0 H2
  go_enter Tryz.func251,Tryz.ntmps251
  go_wp2_with (go_at_call 263;(with_reducible refine CL.mono ?_);rintro e w1 ⟨v,rfl,hB,hO⟩;obtain⟨A',c',rfl,hF⟩:=ypm hO;have F:=zh hF;have B1:=zh hB;clear hF hB hO)
  go_loopw [13] (fun i wr=>i=.int .i64 0/\w1=wr) (fun _ _=>0)
  case atStart=>exact⟨rfl,rfl⟩
  case round=>
   obtain⟨rfl,rfl⟩:=hrel
   have T1:=ybo A' 0 c' (fun _=>0) w1 (F.out.zero _) (fun _ h=>absurd h (by omega)) (by omega)
   have z0:nd (sumTo (fun _=>0) 0)=0:=yar
   rw[z0] at T1
   go_wp2_with (go_at_call 209;(with_reducible refine T1.mono ?_);rintro e w2 ⟨rfl,rfl⟩)
   go_ret
   exact⟨A',c',by rw[yar];rfl,by unfold Nt;rw[yar];exact F.out.zero _,B1.out⟩
 generalize hN:nd a=n at *
 have HN:=zh hN
 clear hN
 generalize hM:nd b=m at *
 have HM:=zh hM
 clear hM
 go_enter Tryz.func251,Tryz.ntmps251
 go_wp2_with (go_at_call 263;(with_reducible refine CL.mono ?_);rintro e w1 ⟨v,rfl,hB,hO⟩;obtain⟨g,c',rfl,hc',hg,hL⟩:=ymo hO (Nat.pos_of_ne_zero h0);have L:=zh hL;have B1:=zh hB;clear hB hO hL)
 clear CL
 have R0:Hid (SubW w w1 g 226 n 0 a b 0):=⟨dg a,⟨B1.out,L.out,hg,fun j _=>dg_lt a j⟩,fun _ _ _=>rfl,by rw[ybb,Nat.mod_one,Nat.mod_one];simp[sumTo]⟩
 go_loopw [6,13] (fun r i wr=>∃ k cy:Nat,k<=n/\i=.int .i64 (k:Int)/\r=.int .i64 (cy:Int)/\cy<=1/\Hid (SubW w wr g 226 n k a b cy)) (fun _ i _=>(n - intOf i).toNat)
 case atStart=>exact⟨0,0,Nat.zero_le _,rfl,rfl,by omega,R0⟩
 case round=>
  clear R0 L B1
  obtain⟨k,cy,hk,rfl,rfl,hcy,hR⟩:=hrel
  obtain⟨o,hO,hre,hS⟩:=hR.out
  clear hR
  by_cases hk0:k=n
  ·subst hk0
   rw[HA.out,HB.out] at hS
   have hlt:=ydm hO.2.2.2
   have hc0:cy=0:=by
    rcases Nat.lt_or_ge cy 1 with h3|h3
    ·omega
    ·have:1*pw k<=cy*pw k:=Nat.mul_le_mul_right _ h3
     have:=HAB.out
     omega
   subst hc0
   have hs:sumTo o k=a - b:=by have:=HAB.out;omega
   have T1:=ybo (some ⟨g,0,none⟩) k c' o wr (hO.2.1.fs (Nat.le_refl _) hc') hO.2.2.2 (by omega)
   have F:=zh ((hO.2.1.fs (Nat.le_refl k) hc').trimmed hO.2.2.2 (yhm hO.2.2.2))
   rw[hs] at T1 F
   have B2:=zh hO.1
   clear hs hS hO hre hlt
   go_wp2_with (go_at_call 209;(with_reducible refine T1.mono ?_);rintro e w2 ⟨rfl,rfl⟩)
   go_ret
   exact⟨_,_,rfl,F.out,B2.out⟩
  ·have i1:k<n:=by omega
   have tc:=hO.2.1.cell i1
   rw[hre k (Nat.le_refl _) i1] at tc
   have tf:=hO.2.1.frozen k
   have hdx:=dg_lt a k
   have hdy:=dg_lt b k
   obtain⟨x,HX⟩:∃ x,dg a k=x:=⟨_,rfl⟩
   rw[HX] at tc hdx
   clear hk0
   by_cases hkm:k<m
   ·obtain⟨b2,o2,rfl,hlt2,q2⟩:=H2.out.at_ hkm
    have p2:wr.cell? ⟨b2,o2+k,none⟩=some (.int .u32 (dg b k:Int)):=(hO.1.cell (p:=⟨b2,o2+k,none⟩) hlt2).trans q2
    obtain⟨y,HY⟩:∃ y,dg b k=y:=⟨_,rfl⟩
    rw[HY] at p2 hdy
    clear q2
    by_cases hneg:x<cy+y
    ·obtain⟨v,hv⟩:∃ v,v=x+1000000000 - (cy+y):=⟨_,rfl⟩
     have h2:=hO.set k v (by omega)
     have hs:sumTo (upd o k v) (k+1)+b % pw (k+1)=a % pw (k+1)+1*pw (k+1):=by
      show sumTo (upd o k v) k+upd o k v k*pw k+b % pw (k+1)=_
      rw[yam o v (Nat.le_refl _),ycd]
      exact yf3 hS (by omega)
     have hrest:∀ j,k+1<=j->j<n->upd o k v j=dg a j:=fun j h3 h4=>by rw[yfd _ _ (by omega)];exact hre j (by omega) h4
     have G2:=zh (show SubW w _ g 226 n (k+1) a b 1 from⟨_,h2,hrest,hs⟩)
     have c4:(v:Int)<=999999999:=by omega
     clear hO hre hS h2 hs hrest
     obtain⟨s,e0⟩:∃ s:Int,(x:Int) - (cy:Int) - (y:Int)=s:=⟨_,rfl⟩
     have s0:s<0:=by omega
     have s1:s+1000000000=(v:Int):=by omega
     have s2 : -1000000000<=s:=by omega
     have c1:(x:Int)<=999999999:=by omega
     have c2:(cy:Int)<=1:=by omega
     have c3:(y:Int)<=999999999:=by omega
     clear hv hneg HX HY
     go_wp2
     go_roundw
     case rel=>exact⟨k+1,1,by omega,by go_num,by rfl,by omega,G2⟩
     case measure=>simp[intOf];omega
    ·obtain⟨v,hv⟩:∃ v,v=x - (cy+y):=⟨_,rfl⟩
     have h2:=hO.set k v (by omega)
     have hs:sumTo (upd o k v) (k+1)+b % pw (k+1)=a % pw (k+1)+0*pw (k+1):=by
      show sumTo (upd o k v) k+upd o k v k*pw k+b % pw (k+1)=_
      rw[yam o v (Nat.le_refl _),ycd]
      exact yf3 hS (by omega)
     have hrest:∀ j,k+1<=j->j<n->upd o k v j=dg a j:=fun j h3 h4=>by rw[yfd _ _ (by omega)];exact hre j (by omega) h4
     have G2:=zh (show SubW w _ g 226 n (k+1) a b 0 from⟨_,h2,hrest,hs⟩)
     have c4:(v:Int)<=999999999:=by omega
     clear hO hre hS h2 hs hrest
     have e0:(x:Int) - (cy:Int) - (y:Int)=(v:Int):=by omega
     have s0:¬(v:Int)<0:=by omega
     have c1:(x:Int)<=999999999:=by omega
     have c2:(cy:Int)<=1:=by omega
     have c3:(y:Int)<=999999999:=by omega
     clear hv hneg HX HY
     go_wp2
     go_roundw
     case rel=>exact⟨k+1,0,by omega,by go_num,by rfl,by omega,G2⟩
     case measure=>simp[intOf];omega
   ·have HY:=HZ.out k (by omega)
    by_cases hneg:x<cy
    ·obtain⟨v,hv⟩:∃ v,v=x+1000000000 - (cy):=⟨_,rfl⟩
     have h2:=hO.set k v (by omega)
     have hs:sumTo (upd o k v) (k+1)+b % pw (k+1)=a % pw (k+1)+1*pw (k+1):=by
      show sumTo (upd o k v) k+upd o k v k*pw k+b % pw (k+1)=_
      rw[yam o v (Nat.le_refl _),ycd]
      exact yf3 hS (by omega)
     have hrest:∀ j,k+1<=j->j<n->upd o k v j=dg a j:=fun j h3 h4=>by rw[yfd _ _ (by omega)];exact hre j (by omega) h4
     have G2:=zh (show SubW w _ g 226 n (k+1) a b 1 from⟨_,h2,hrest,hs⟩)
     have c4:(v:Int)<=999999999:=by omega
     clear hO hre hS h2 hs hrest
     obtain⟨s,e0⟩:∃ s:Int,(x:Int) - (cy:Int)=s:=⟨_,rfl⟩
     have s0:s<0:=by omega
     have s1:s+1000000000=(v:Int):=by omega
     have s2 : -1000000000<=s:=by omega
     have c1:(x:Int)<=999999999:=by omega
     have c2:(cy:Int)<=1:=by omega
     clear hv hneg HX HY hdy
     go_wp2
     go_roundw
     case rel=>exact⟨k+1,1,by omega,by go_num,by rfl,by omega,G2⟩
     case measure=>simp[intOf];omega
    ·obtain⟨v,hv⟩:∃ v,v=x - (cy):=⟨_,rfl⟩
     have h2:=hO.set k v (by omega)
     have hs:sumTo (upd o k v) (k+1)+b % pw (k+1)=a % pw (k+1)+0*pw (k+1):=by
      show sumTo (upd o k v) k+upd o k v k*pw k+b % pw (k+1)=_
      rw[yam o v (Nat.le_refl _),ycd]
      exact yf3 hS (by omega)
     have hrest:∀ j,k+1<=j->j<n->upd o k v j=dg a j:=fun j h3 h4=>by rw[yfd _ _ (by omega)];exact hre j (by omega) h4
     have G2:=zh (show SubW w _ g 226 n (k+1) a b 0 from⟨_,h2,hrest,hs⟩)
     have c4:(v:Int)<=999999999:=by omega
     clear hO hre hS h2 hs hrest
     have e0:(x:Int) - (cy:Int)=(v:Int):=by omega
     have s0:¬(v:Int)<0:=by omega
     have c1:(x:Int)<=999999999:=by omega
     have c2:(cy:Int)<=1:=by omega
     clear hv hneg HX HY hdy
     go_wp2
     go_roundw
     case rel=>exact⟨k+1,0,by omega,by go_num,by rfl,by omega,G2⟩
     case measure=>simp[intOf];omega
end Go.Proofs.YtajmjllhdcdkmaaGreatDoor
