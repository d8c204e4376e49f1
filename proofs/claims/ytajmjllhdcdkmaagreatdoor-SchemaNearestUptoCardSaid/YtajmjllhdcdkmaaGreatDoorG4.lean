import Derived.Test.YtajmjllhdcdkmaaGreatDoorZ
import Derived.Test.YtajmjllhdcdkmaaGreatDoorG3
import Derived.Test.YtajmjllhdcdkmaaGreatDoorG1
import Derived.Lib.SliceRun
import Derived.Laws.CopyOwn
set_option maxRecDepth 100000
set_option maxHeartbeats 6400000
namespace Go.Proofs.YtajmjllhdcdkmaaGreatDoor
open Go.RowKit Go.Proofs.YtajmjllhdcdkmaaGreatDoor.Dg
def Bs (w:World) (g N:Nat):Prop:=∃ c t f,w.heap[g]?=some (.cells c t f)/\c.size=N
theorem Bs.set {w:World} {g N:Nat} (h:Bs w g N) (i:Nat) (v:Value):Bs (w.setCell ⟨g,i,none⟩ v) g N:=by
 obtain⟨c,t,f,hb,hn⟩:=h
 refine⟨c.setIfInBounds i v,t,f,?_,by simpa using hn⟩
 simp[World.setCell,Array.getElem?_modify,hb]
theorem Bs.made (k:IntKind) (w:World) (n:Nat) (t:TypeId):Bs (w.alloc (.cells (madeCells #[.int k 0] n) t)) w.heap.size n:=by
 refine⟨madeCells #[.int k 0] n,t,(0,0),?_,by simp[madeCells]⟩
 show (w.heap.push _)[w.heap.size]?=_
 simp
def GiveX (k:IntKind) (t:TypeId) (w:World) (a:Nat) (e:Ending) (w':World):Prop:=∃ g n o,e=.returned (.slice (some ⟨g,0,none⟩) (nd a) n)/\Rb k w w' g t n o/\Bs w' g n/\n<=1000001/\sumTo o n=a
def SumX (k:IntKind) (w wr:World) (g:Nat) (t:TypeId) (n i S:Nat) (C:Nat):Prop:=∃ o,Rb k w wr g t n o/\Bs wr g n/\sumTo o i+C=S
theorem lw_own {k:IntKind} {w:World} {g n N base:Nat} {t:TypeId} {o:Nat->Nat} (h:Lw k w g t N o) (hx:Bs w g N) (hn:n<=N) (hN:N<=maxLen) (hb:base<=g) :
  w.ownsRow base t 1 (.slice (some ⟨g,0,none⟩) n N) n (limbs k n o):=by
 obtain⟨c,hc,h1,h2⟩:=h
 obtain⟨c',t',f',hc',hs⟩:=hx
 rw[hc] at hc'
 injection hc' with hc'
 injection hc' with e1 e2 e3
 subst e1
 refine⟨by rw[ybc,Nat.mul_one],.inr ⟨g,N,c,rfl,hb,hc,hn,hN,by omega,?_⟩⟩
 apply List.ext_getElem?
 intro j
 rw[Nat.mul_one]
 by_cases hj:j<n
 ·rw[List.getElem?_take_of_lt hj,Array.getElem?_toList,h2 j (by omega)]
  unfold limbs
  rw[List.getElem?_map,List.getElem?_range hj];rfl
 ·rw[List.getElem?_eq_none (by simp;omega),List.getElem?_eq_none (by rw[ybc];omega)]
theorem Lw.zeros {k:IntKind} {g N:Nat} {t:TypeId}:∀ (m off:Nat) (w:World) (o:Nat->Nat),Lw k w g t N o->
  Lw k (w.setCells g off (List.replicate m (.int k 0))) g t N (fun j=>if off<=j/\j<off+m then 0 else o j)
 | 0,off,w,o,h=>by
  refine Lw.congr (o:=o) h fun j _=>?_
  rw[if_neg (by omega)]
 | m+1,off,w,o,h=>by
  rw[List.replicate_succ]
  have h1:=Lw.zeros m (off+1) _ _ (h.set off 0)
  refine Lw.congr h1 fun j _=>?_
  unfold upd
  by_cases e:j=off
  ·subst e;rw[if_neg (by omega),if_pos rfl,if_pos (by omega)]
  ·by_cases h2:off+1<=j/\j<off+1+m
   ·rw[if_pos h2,if_pos (by omega)]
   ·rw[if_neg h2,if_neg e,if_neg (by omega)]
theorem Lw.spliced {k:IntKind} {w w':World} {g N off m:Nat} {t:TypeId} {o r:Nat->Nat} {cur:List Value} (h:Lw k w g t N o) (hc:w.heap[g]?=some (.cells cur.toArray t (0,0))) (hfit:off+m<=N)
  (h':w'.heap[g]?=some (.cells (splice cur off (limbs k m r)).toArray t (0,0))):Lw k w' g t N (fun j=>if off<=j/\j<off+m then r (j - off) else o j):=by
 obtain⟨c,hb,hn,hv⟩:=h
 rw[hc] at hb
 injection hb with hb
 injection hb with e1 e2 e3
 subst e1
 have hl:N<=cur.length:=by simpa using hn
 refine⟨_,h',?_,fun i hi=>?_⟩
 ·have:=length_splice cur off (limbs k m r) (by rw[ybc];omega)
  simp[this];omega
 ·have hi':=hv i hi
  simp only[List.getElem?_toArray] at hi' ⊢
  unfold splice
  rw[ybc]
  by_cases h1:i<off
  ·rw[List.getElem?_append_left (by simp;omega),List.getElem?_take_of_lt h1,hi',if_neg (by omega)]
  ·rw[List.getElem?_append_right (by simp;omega),List.length_take,Nat.min_eq_left (by omega)]
   by_cases h2:i<off+m
   ·rw[List.getElem?_append_left (by rw[ybc];omega),if_pos (by omega)]
    unfold limbs
    rw[List.getElem?_map,List.getElem?_range (by omega)];rfl
   ·rw[List.getElem?_append_right (by rw[ybc];omega),ybc,List.getElem?_drop,if_neg (by omega),<- hi']
    congr 1;omega
theorem Lw.row {k:IntKind} {w:World} {g N:Nat} {t:TypeId} {o:Nat->Nat} (h:Lw k w g t N o):∃ cur:List Value,w.heap[g]?=some (.cells cur.toArray t (0,0))/\N<=cur.length:=by
 obtain⟨c,hb,hn,_⟩:=h
 exact⟨c.toList,by simpa using hb,by simpa using hn⟩
theorem yg5 {w0 w:World} {g:Nat} (h:w0.grownBy w (some g)) (hg:g<w.heap.size):∀ (m off:Nat) (v:Value),w0.grownBy (w.setCells g off (List.replicate m v)) (some g):=by
 intro m
 induction m generalizing w with
 | zero=>intro off v;exact h
 | succ m ih=>
  intro off v
  rw[List.replicate_succ]
  refine ih (w:=w.setCell ⟨g,off,none⟩ v) ⟨h.os,h.tape,h.output,?_,fun k hk hne=>?_⟩ ?_ (off+1) v
  ·have:=h.size
   simp[World.setCell];omega
  ·have h1:=h.block k hk hne
   have:k≠g:=fun e=>hne (by rw[e])
   simp only[World.setCell,Array.getElem?_modify]
   rw[if_neg (fun e=>this e.symm)]
   exact h1
  ·simp[World.setCell];exact hg
theorem yjz (A:Option Addr) (c a m:Nat) (w:World) (h:Nt .u32 w w.heap.size A c a) (hn:nd a<=1000000) (hm0:0<m) (hm:m<=1000000000) :
  Calls Tryz.prog 239 #[.slice A (nd a) c,.int .u64 m] w (GiveX .u32 226 w (a*m)):=by
 have hmk:=fun w=>run_make_row' (P:=Tryz.prog) 176 226 (.int .u32 0) 4 Tryz.underlying176 Tryz.infoU32 rfl .i64 .i64 (nd a+1) (by omega) (by omega) w
 push_cast at hmk
 have H:=zh h
 unfold Nt at H
 have R0:Hid (SumX .u32 w (w.alloc (.cells (madeCells #[.int .u32 0] (nd a+1)) 226)) w.heap.size 226 (nd a+1) 0 (a % pw 0*m) (0*pw 0)):=
  ⟨_,Rb.made .u32 w (nd a+1) 226,Bs.made .u32 w (nd a+1) 226,by rw[ybb,Nat.mod_one];simp[sumTo]⟩
 have HA:=zh (yb4 (Nat.le_refl (nd a)))
 clear h
 generalize hN:nd a=n at *
 have HN:=zh hN
 clear hN
 go_enter Tryz.func239,Tryz.ntmps239
 go_wp2
 clear hmk
 go_loopw [6,16] (fun r i wr=>∃ k cy:Nat,k<=n/\i=.int .i64 (k:Int)/\r=.int .u64 (cy:Int)/\cy<m/\Hid (SumX .u32 w wr w.heap.size 226 (n+1) k (a % pw k*m) (cy*pw k))) (fun _ i _=>(n - intOf i).toNat)
 case atStart=>exact⟨0,0,Nat.zero_le _,rfl,rfl,hm0,R0⟩
 case round=>
  clear R0
  obtain⟨k,cy,hk,rfl,rfl,hcy,hR⟩:=hrel
  obtain⟨o,hO,hX,hS⟩:=hR.out
  have HO:=zh hO
  have tc:=hO.2.1.cell (show k<n+1 by omega)
  have tf:=hO.2.1.frozen k
  clear hR
  by_cases hk0:k=n
  ·subst hk0
   have h2:=hO.set k cy (by omega)
   have hs:sumTo (upd o k cy) (k+1)=a*m:=by
    rw[HA.out] at hS
    show sumTo (upd o k cy) k+upd o k cy k*pw k=a*m
    rw[yam o cy (Nat.le_refl _),ycd];exact hS
   have T1:=ybo (some ⟨w.heap.size,0,none⟩) (k+1) (k+1) (upd o k cy) _ (h2.2.1.fs (Nat.le_refl _) (Nat.le_refl _)) h2.2.2.2 (by omega)
   rw[hs] at T1
   have H2:=zh h2
   have X2:=zh (hX.set k (.int .u32 ((cy:Nat):Int)))
   clear hX
   have HS:=zh hs
   clear h2 hs hS hO HO
   generalize o k=z at *
   go_wp2_with (go_at_call 209;(with_reducible refine T1.mono ?_);rintro e w1 ⟨rfl,rfl⟩)
   go_ret
   exact⟨w.heap.size,k+1,_,rfl,H2.out,X2.out,by omega,HS.out⟩
  ·obtain⟨b,off,rfl,hlt,q1⟩:=H.out.at_ (show k<n by omega)
   have q2:wr.cell? ⟨b,off+k,none⟩=some (.int .u32 (dg a k:Int)):=(hO.1.cell (p:=⟨b,off+k,none⟩) hlt).trans q1
   have hd:=dg_lt a k
   have hp1:dg a k*m<=999999999*m:=Nat.mul_le_mul_right _ (by omega)
   obtain⟨v,hv⟩:∃ v,v=(dg a k*m+cy) % 1000000000:=⟨_,rfl⟩
   obtain⟨cy',hc'⟩:∃ cy',cy'=(dg a k*m+cy) / 1000000000:=⟨_,rfl⟩
   have h2:=hO.set k v (by omega)
   have hs:sumTo (upd o k v) (k+1)+cy'*pw (k+1)=a % pw (k+1)*m:=by
    show sumTo (upd o k v) k+upd o k v k*pw k+cy'*pw (k+1)=_
    rw[yam o v (Nat.le_refl _),ycd]
    exact yhq hS (by omega)
   have H2:=zh (show SumX .u32 w _ w.heap.size 226 (n+1) (k+1) (a % pw (k+1)*m) (cy'*pw (k+1)) from⟨_,h2,hX.set k _,hs⟩)
   have eP:(dg a k:Int)*(m:Int)=((dg a k*m:Nat):Int):=(Int.natCast_mul _ _).symm
   generalize dg a k*m=p at *
   generalize dg a k=d at *
   clear q1 hs h2 hS hO HO hX
   generalize o k=z at *
   have b1:(p:Int)<=999999999000000000:=by omega
   have b2:(cy:Int)<=999999999:=by omega
   have b3:(v:Int)<=999999999:=by omega
   have b4:(cy':Int)<=999999999:=by omega
   have hcm:cy'<m:=by omega
   have e1:((p:Int)+(cy:Int)) % 1000000000=(v:Int):=by omega
   have E2:=zh (show ((p:Int)+(cy:Int)) / 1000000000=(cy':Int) by omega)
   have i1:k<n:=by omega
   clear hv hc' hp1 hk0
   go_wp2
   go_roundw
   case rel=>exact⟨k+1,cy',by omega,by go_num,by rw[E2.out],hcm,H2⟩
   case measure=>simp[intOf];omega
theorem ybm {w w':World} {g:Option Nat} (h:Below w.heap.size w w'):w.grownBy w' g:=⟨h.os,h.tape,h.output,h.size,fun k hk _=>h.block k hk⟩
theorem ylc {a b c:World} {g:Option Nat} (h:a.grownBy b g) (k:b.grownBy c g):a.grownBy c g:=
 ⟨k.os.trans h.os,k.tape.trans h.tape,k.output.trans h.output,Nat.le_trans h.size k.size,fun i hi hne=>(k.block i (Nat.lt_of_lt_of_le hi h.size) hne).trans (h.block i hi hne)⟩
theorem yjl (w:World) (g:Nat) (cs:Array Value):w.grownBy (w.setRow g cs) (some g):=
 ⟨rfl,rfl,rfl,by simp[World.setRow],fun k _ hne=>setRow_other w g k cs (fun e=>hne (by rw[e]))⟩
theorem Lw.win {k:IntKind} {w:World} {g N off m c:Nat} {t:TypeId} {o:Nat->Nat} (h:Lw k w g t N o) (hm:off+m<=N) (hc:m<=c):Fs k w w.heap.size (some ⟨g,off,none⟩) m c (win o off):=
 ⟨hc,(fun e=>by cases e),fun _=>⟨g,off,rfl,h.lt,fun j hj=>h.cell (by omega)⟩⟩
theorem yf0 {P:Program} {w:World} {ops:Array Oper} {rest:List Oper} {o:Oper} {a:Act} {Q:Exit->Act->World->Prop} (hgd:o.guard=none) (d s:Operand) (dT sT:TypeId)
  (ho:o.op=.call { callee:=.builtin .copy,args:=#[d,s],argTypes:=#[dT,sT] }) (elem:TypeId) (hu:P.underlying dT=some (.slice elem)) (hsz:(P.info? elem).map (·.size)=some 1)
  (dp sp:Option Addr) (dLen dCap sLen sCap:Nat) (hd:a.eval d=.slice dp dLen dCap) (hs:a.eval s=.slice sp sLen sCap)
  (g off:Nat) (cur:List Value) (t:TypeId) (hg:w.heap[g]?=some (.cells cur.toArray t (0,0))) (cs:List Value) (hn:cs.length=Nat.min sLen dLen)
  (hpos:0<cs.length->dp=some ⟨g,off,none⟩/\∃ ad,sp=some ad/\∀ j v,cs[j]?=some v->w.cell? (ad.add j)=some v)
  (hfit:off+cs.length<=cur.length) (h1:∀ v ∈ cs,v.oneCell'=true)
  (h:∀ w',Hid (w'.heap[g]?=some (.cells (splice cur off cs).toArray t (0,0)))->w.grownBy w' (some g)->wpList P ops Q rest (a.put o.dst (goInt cs.length)) w') :
  wpList P ops Q (o::rest) a w:=by
 by_cases h0:cs.length=0
 ·obtain rfl:cs=[]:=List.eq_nil_of_length_eq_zero h0
  refine wpList_copy_nothing hgd d s dT sT ho elem hu hsz dp sp dLen dCap sLen sCap hd hs (by simpa using hn.symm) ?_
  exact h w (show _=_ by simpa[splice] using hg) (ybm (Below.refl _ _))
 ·obtain⟨rfl,ad,rfl,hsrc⟩:=hpos (by omega)
  refine wpList_copy_own hgd d s dT sT ho elem hu hsz g off dLen dCap ad sLen sCap hd hs cur.toArray t hg cs hn hsrc (by simpa using hfit) h1 ?_
  exact h _ (show _=_ by simpa[splice] using setRow_heap w g _ _ t _ hg) (yjl w g _)
def TakeQ (w:World) (g N off m x d:Nat) (o:Nat->Nat) (e:Ending) (w':World):Prop:=
 e=.returned (.bool (decide (d<=x)))/\w.grownBy w' (some g)/\∃ o',Lw .u32 w' g 226 N o'/\(∀ j,j<N->o' j<1000000000)/\(∀ j,j<N->(j<off\/off+m<=j)->o' j=o j)/\sumTo (win o' off) m=if d<=x then x - d else x
theorem ydl {a b:Nat}:cmpN a b<0 ↔ a<b:=by unfold cmpN;split<;>(try split)<;>omega
theorem Tryz.sizeU32:(Tryz.prog.info? 226).map (·.size)=some 1:=by kernel_rfl
theorem Tryz.zeroU32 (w:World):(zeroValue 226).run Tryz.prog w=.ok (.int .u32 0) w:=by
 obtain⟨i0,hi,hz0,hz1,hz2⟩:=info_parts Tryz.infoU32
 simp[zeroValue,typeInfo,hi,hz0]
theorem yr1 {k:IntKind} {w:World} {A:Option Addr} {c r l g off:Nat} (hl:nd r=l) (h:Nt k w w.heap.size A c r) :
  0<(limbs k l (dg r)).length->some (⟨g,off,none⟩:Addr)=some ⟨g,off,none⟩/\∃ ad,A=some ad/\∀ j v,(limbs k l (dg r))[j]?=some v->w.cell? (ad.add j)=some v:=by
 intro h0
 rw[ybc] at h0
 subst hl
 obtain⟨b,o,e,_,hc⟩:=h.2.2 h0
 refine⟨rfl,_,e,fun j v hv=>?_⟩
 obtain⟨hj,rfl⟩:=ymk hv
 have ha:(⟨b,o,none⟩:Addr).add j=⟨b,o+j,none⟩:=by unfold Addr.add;split<;>simp_all
 rw[ha]
 exact hc j hj
theorem yq6 (g off m c N q v:Nat) (A:Option Addr) (cv:Nat) (o:Nat->Nat) (w:World) (hL:Lw .u32 w g 226 N o) (ho:∀ j,j<N->o j<1000000000) (hoff:off+m<=N) (hm:m<=c) (hN:N<=1000000)
  (hV:Nt .u32 w w.heap.size A cv v) (hnv:nd v<=1000000) (hq0:0<q) (hq:q<=999999999) (hr:v*q<=sumTo (win o off) m->nd (sumTo (win o off) m - v*q)<m) :
  Calls Tryz.prog 240 #[.slice (some ⟨g,off,none⟩) m c,.slice A (nd v) cv,.int .u64 q] w (TakeQ w g N off m (sumTo (win o off) m) (v*q) o):=by
 have S:=yoo A cv v q w hV hnv hq0 (by omega)
 have hwb:∀ j,j<m->win o off j<1000000000:=fun j hj=>ho _ (by omega)
 have hlt:=ydm hwb
 generalize hX:sumTo (win o off) m=x at *
 generalize hD:v*q=d at *
 have hx:nd x<=m:=nd_le hlt
 have HX:=zh hX
 have HW:=zh hwb
 have HL:=zh hL
 have HO:=zh ho
 clear hX hlt hV hL ho
 by_cases hdx:d<=x
 ·have hr':=hr hdx
  obtain⟨r,hrr⟩:∃ r,x - d=r:=⟨_,rfl⟩
  rw[hrr] at hr'
  have HR:=zh hrr
  obtain⟨z,hz⟩:∃ z,cmpN x d=z:=⟨_,rfl⟩
  have hz0:¬z<0:=by rw[<- hz,ydl];omega
  obtain⟨l,hl⟩:∃ l,nd r=l:=⟨_,rfl⟩
  have hlm:l<m:=by omega
  have HLn:=zh hl
  clear hr hr' hwb hl
  have X1:∀ w1:World,Below w.heap.size w w1->Nt .u32 w1 w1.heap.size (some ⟨g,off,none⟩) c x:=by
   intro w1 hb
   have:=((HL.out.below hb HL.out.lt).win hoff hm).trimmed HW.out (yhm HW.out)
   rw[HX.out] at this
   exact this
  have T1:∀ w1:World,Below w.heap.size w w1->Calls Tryz.prog 209 #[.slice (some ⟨g,off,none⟩) m c] w1 fun e w'=>e=.returned (.slice (some ⟨g,off,none⟩) (nd x) c)/\w1=w':=by
   intro w1 hb
   have:=ybo (some ⟨g,off,none⟩) m c (win o off) w1 ((HL.out.below hb HL.out.lt).win hoff hm) HW.out (by omega)
   rw[HX.out] at this
   exact this.mono fun e w' ⟨h1,h2⟩=>⟨h1,h2.symm⟩
  have C1:∀ (w1:World) (A':Option Addr) (c':Nat),Below w.heap.size w w1->Nt .u32 w1 w1.heap.size A' c' d->Calls Tryz.prog 237 #[.slice (some ⟨g,off,none⟩) (nd x) c,.slice A' (nd d) c'] w1 fun e w'=>e=.returned (.int .i64 z)/\∃ q,w'=w1.drewN q:=by
   intro w1 A' c' hb hN
   have:=yex (some ⟨g,off,none⟩) A' c c' x d w1 (X1 w1 hb) hN (by omega)
   rw[hz] at this
   exact this
  have S1:∀ (w1:World) (A':Option Addr) (c':Nat),Below w.heap.size w w1->Nt .u32 w1 w1.heap.size A' c' d->Calls Tryz.prog 251 #[.slice (some ⟨g,off,none⟩) (nd x) c,.slice A' (nd d) c'] w1 (GiveN .u32 w1 r):=by
   intro w1 A' c' hb hN
   have:=ylf (some ⟨g,off,none⟩) A' c c' x d w1 (X1 w1 hb) hN hdx (by omega)
   rw[hrr] at this
   exact this
  have HDX:=zh hdx
  clear X1 hrr hz hdx hx
  go_enter Tryz.func240,Tryz.ntmps240
  go_wp2_with (first|((refine yf0 rfl (.tmp 21) (.tmp 22) 176 176 rfl 226 Tryz.underlying176 Tryz.sizeU32 (some ⟨g,off,none⟩) A3 m c l c3 rfl rfl g off cur 226 CU.out (limbs .u32 l (dg r)) (by rw[ybc];exact(Nat.min_eq_left (by omega)).symm) (yr1 HLn.out N3.out) (by rw[ybc];have:=CL.out;omega) (yjq _ _ _) ?_;intro w4 HG4 hB4;have L4:=zh (L3.out.spliced CU.out (by omega) HG4.out);have G4:=zh hB4;have hcl:=fun ty=>Lib.run_clear_slice w4 176 226 ty (.int .u32 0) Tryz.underlying176 Tryz.zeroU32 rfl rfl g (off+l) (m - l) (c - l) (by omega) (fun j hj=>by rw[L4.out.cell (show off+l+j<N by omega)];rfl) (fun j _=>L4.out.frozen _);clear HG4 hB4))|(go_at_call 251;(with_reducible refine(S1 _ _ _ (yab B1.out _) P2.out).mono ?_);rintro e w3 ⟨A3,c3,rfl,hN3,hb3⟩;have N3:=zh hN3;have B3:=zh (yac (yab B1.out k2) hb3);have L3:=zh (HL.out.below B3.out HL.out.lt);obtain⟨cur,hcur,hcl⟩:=L3.out.row;have CU:=zh hcur;have CL:=zh hcl;rw[HLn.out];clear hN3 hb3 hcur hcl)|(go_at_call 209;(with_reducible refine(T1 _ (yab B1.out _)).mono ?_);rintro e w2 ⟨rfl,rfl⟩)|(go_at_call 209;(with_reducible refine(T1 _ B1.out).mono ?_);rintro e w2 ⟨rfl,rfl⟩)|(go_at_call 237;(with_reducible refine(C1 _ _ _ B1.out P1.out).mono ?_);rintro e w2 ⟨rfl,k2,rfl⟩;have P2:=zh (show Nt .u32 (w1.drewN k2) (w1.drewN k2).heap.size A' c' d from P1.out))|(go_at_call 239;(with_reducible refine S.mono ?_);rintro e w1 hg1;obtain⟨A',c',rfl,hN1,hb1⟩:=hg1.n;have B1:=zh hb1;have P1:=zh hN1;clear hN1 hb1 hg1))
  go_ret
  unfold TakeQ;rw[if_pos HDX.out]
  refine⟨by rw[decide_eq_true HDX.out];rfl,yg5 (ylc (ybm B3.out) G4.out) L4.out.lt _ _ _,_,Lw.zeros (m - l) (off+l) w4 _ L4.out,fun j hj=>?_,fun j hj hout=>?_,?_⟩
  ·split
   ·decide
   ·split
    ·exact dg_lt _ _
    ·exact HO.out j hj
  ·show (if off+l<=j/\j<off+l+(m - l) then 0 else if off<=j/\j<off+l then dg r (j - off) else o j)=o j
   rw[if_neg (by omega),if_neg (by omega)]
  ·have hnr:nd r<=m:=by have:=HLn.out;omega
   rw[HR.out,ya9 (o':=dg r) (fun j hj=>?_),yc2,yb4 hnr]
   show (if off+l<=off+j/\off+j<off+l+(m - l) then 0 else if off<=off+j/\off+j<off+l then dg r (off+j - off) else o (off+j))=dg r j
   by_cases hjl:j<l
   ·rw[if_neg (by omega),if_pos (by omega)];congr 1;omega
   ·rw[if_pos (by omega)];exact(ydu (by have:=HLn.out;omega)).symm
 ·obtain⟨z,hz⟩:∃ z,cmpN x d=z:=⟨_,rfl⟩
  have hz0:z<0:=by rw[<- hz,ydl];omega
  have X1:∀ w1:World,Below w.heap.size w w1->Nt .u32 w1 w1.heap.size (some ⟨g,off,none⟩) c x:=by
   intro w1 hb
   have:=((HL.out.below hb HL.out.lt).win hoff hm).trimmed HW.out (yhm HW.out)
   rw[HX.out] at this
   exact this
  have T1:∀ w1:World,Below w.heap.size w w1->Calls Tryz.prog 209 #[.slice (some ⟨g,off,none⟩) m c] w1 fun e w'=>e=.returned (.slice (some ⟨g,off,none⟩) (nd x) c)/\w1=w':=by
   intro w1 hb
   have:=ybo (some ⟨g,off,none⟩) m c (win o off) w1 ((HL.out.below hb HL.out.lt).win hoff hm) HW.out (by omega)
   rw[HX.out] at this
   exact this.mono fun e w' ⟨h1,h2⟩=>⟨h1,h2.symm⟩
  have C1:∀ (w1:World) (A':Option Addr) (c':Nat),Below w.heap.size w w1->Nt .u32 w1 w1.heap.size A' c' d->Calls Tryz.prog 237 #[.slice (some ⟨g,off,none⟩) (nd x) c,.slice A' (nd d) c'] w1 fun e w'=>e=.returned (.int .i64 z)/\∃ q,w'=w1.drewN q:=by
   intro w1 A' c' hb hN
   have:=yex (some ⟨g,off,none⟩) A' c c' x d w1 (X1 w1 hb) hN (by omega)
   rw[hz] at this
   exact this
  have HDX:=zh hdx
  clear X1 hz hdx hx hr hwb
  go_enter Tryz.func240,Tryz.ntmps240
  go_wp2_with (first|(go_at_call 209;(with_reducible refine(T1 _ B1.out).mono ?_);rintro e w2 ⟨rfl,rfl⟩)|(go_at_call 237;(with_reducible refine(C1 _ _ _ B1.out P1.out).mono ?_);rintro e w2 ⟨rfl,k2,rfl⟩)|(go_at_call 239;(with_reducible refine S.mono ?_);rintro e w1 hg1;obtain⟨A',c',rfl,hN1,hb1⟩:=hg1.n;have B1:=zh hb1;have P1:=zh hN1;clear hN1 hb1 hg1))
  go_ret
  unfold TakeQ;rw[if_neg HDX.out]
  exact⟨by rw[decide_eq_false HDX.out];rfl,ybm (yab B1.out k2),o,HL.out.below (yab B1.out k2) HL.out.lt,HO.out,fun _ _ _=>rfl,HX.out⟩
def GiveNN (k:IntKind) (w:World) (x y:Nat) (e:Ending) (w':World):Prop:=∃ A c A' c',e=.returned (.tuple #[.slice A (nd x) c,.slice A' (nd y) c'])/\Nt k w' w'.heap.size A c x/\Nt k w' w'.heap.size A' c' y/\Below w.heap.size w w'
theorem Nt.nil (k:IntKind) (w:World) (B:Nat):Nt k w B none 0 0:=by unfold Nt;rw[yar];exact Fs.nil _ _ _ _
theorem Nt.up {k:IntKind} {w w':World} {A:Option Addr} {c a:Nat} (h:Nt k w w.heap.size A c a) (hb:Below w.heap.size w w'):Nt k w' w'.heap.size A c a:=Fs.up h hb
theorem Nt.drewN {k:IntKind} {w:World} {A:Option Addr} {c a:Nat} (h:Nt k w w.heap.size A c a) (q:Nat):Nt k (w.drewN q) (w.drewN q).heap.size A c a:=h
theorem yqs (A1 A2:Option Addr) (c1 c2 a b:Nat) (w:World) (h1:Nt .u32 w w.heap.size A1 c1 a) (h2:Nt .u32 w w.heap.size A2 c2 b) (hn1:nd a<=900000) (hab:a<b) :
  Calls Tryz.prog 208 #[.slice A1 (nd a) c1,.slice A2 (nd b) c2] w (GiveNN .u32 w (a / b) (a % b)):=by
 have C1:=yex A1 A2 c1 c2 a b w h1 h2 (by omega)
 obtain⟨z,hz⟩:∃ z,cmpN a b=z:=⟨_,rfl⟩
 have hz0:z<0:=by rw[<- hz,ydl];exact hab
 rw[hz] at C1
 have H1:=zh h1
 rw[Nat.div_eq_of_lt hab,Nat.mod_eq_of_lt hab]
 clear hz hab h1 h2
 go_enter Tryz.func208,Tryz.ntmps208
 go_wp2_with (go_at_call 237;(with_reducible refine C1.mono ?_);rintro e w2 ⟨rfl,k2,rfl⟩)
 go_ret2
 exact⟨none,0,A1,c1,by rw[yar];rfl,Nt.nil _ _ _,H1.out.drewN k2,yab (Below.refl _ _) k2⟩
theorem div_one (A1 A2:Option Addr) (c1 c2 a b:Nat) (w:World) (h1:Nt .u32 w w.heap.size A1 c1 a) (h2:Nt .u32 w w.heap.size A2 c2 b) (hn1:nd a<=900000) (hab:b<=a) (hb1:nd b=1) :
  Calls Tryz.prog 208 #[.slice A1 (nd a) c1,.slice A2 (nd b) c2] w (GiveNN .u32 w (a / b) (a % b)):=by
 have C1:=yex A1 A2 c1 c2 a b w h1 h2 (by omega)
 obtain⟨z,hz⟩:∃ z,cmpN a b=z:=⟨_,rfl⟩
 have hz0:¬z<0:=by rw[<- hz,ydl];omega
 rw[hz] at C1
 have hb0:b≠0:=by rintro rfl;rw[yar] at hb1;omega
 have hbs:=yi0 (a:=b) (by omega)
 have S1:=fun q=>yjk A1 c1 a b (w.drewN q) (h1.drewN q) (by omega) (by omega) (by omega)
 have Z1:=fun w=>ymr (a % b) (by have:=Nat.mod_lt a (Nat.pos_of_ne_zero hb0);omega) w
 obtain⟨b1,o1,hA,hlt,q1⟩:=Fs.at_ h2 (show 0<nd b by omega)
 rw[ygi hbs,Nat.add_zero] at q1
 subst hA
 rw[hb1] at C1 ⊢
 have b2:(b:Int)<=999999999:=by omega
 generalize a % b=r at *
 generalize a / b=y at *
 clear hz hab h1 h2 hb1
 go_enter Tryz.func208,Tryz.ntmps208
 go_wp2_with (first|(go_at_call 237;(with_reducible refine C1.mono ?_);rintro e w2 ⟨rfl,k2,rfl⟩)|(go_at_call 238;(with_reducible refine(S1 _).mono ?_);rintro e w3 ⟨A3,c3,rfl,hN3,hb3⟩;have N3:=zh hN3;have B3:=zh (yac (yab (Below.refl _ w) k2) hb3);clear hN3 hb3)|(go_at_call 168;(with_reducible refine(Z1 _).mono ?_);rintro e w4 ⟨A4,c4,rfl,hN4,hb4⟩;have N4:=zh hN4;have B4:=zh hb4;clear hN4 hb4))
 go_ret2
 exact⟨A3,c3,A4,c4,rfl,N3.out.up B4.out,N4.out,yac B3.out B4.out⟩
theorem Lw.sub {k:IntKind} {w:World} {g n N:Nat} {t:TypeId} {o:Nat->Nat} (h:Lw k w g t N o) (hn:n<=N):Lw k w g t n o:=by
 obtain⟨c,hb,hc,hv⟩:=h
 exact⟨c,hb,by omega,fun i hi=>hv i (by omega)⟩
theorem Lw.nt {k:IntKind} {w:World} {g n c a:Nat} {t:TypeId} (h:Lw k w g t n (dg a)) (hn:nd a=n) (hc:n<=c):Nt k w w.heap.size (some ⟨g,0,none⟩) c a:=by
 unfold Nt
 rw[hn]
 exact h.fs (Nat.le_refl _) hc
theorem Lw.grown {k:IntKind} {w w':World} {g g' n:Nat} {t:TypeId} {o:Nat->Nat} (h:Lw k w g t n o) (hb:w.grownBy w' (some g')) (hg:g≠g'):Lw k w' g t n o:=
 h.of_block (hb.block g h.lt (fun e=>hg (by injection e)))
theorem Lw.other {k:IntKind} {w:World} {g g' n i:Nat} {t:TypeId} {o:Nat->Nat} {v:Value} (h:Lw k w g t n o) (hg:g≠g'):Lw k (w.setCell ⟨g',i,none⟩ v) g t n o:=
 h.of_block (by simp only[World.setCell,Array.getElem?_modify];rw[if_neg (fun e=>hg e.symm)])
theorem GiveX.lw {k:IntKind} {t:TypeId} {w w':World} {a:Nat} {e:Ending} (h:GiveX k t w a e w'):∃ g n,e=.returned (.slice (some ⟨g,0,none⟩) (nd a) n)/\nd a<=n/\w.heap.size<=g/\Below w.heap.size w w'/\Lw k w' g t (nd a) (dg a)/\(AppW k w w' t (.slice (some ⟨g,0,none⟩) (nd a) n) (nd a) (dg a)):=by
 obtain⟨g,n,o,he,hr,hx,hn,hs⟩:=h
 have hnd:nd a<=n:=by rw[<- hs];exact yhm hr.2.2.2
 have hl:Lw k w' g t (nd a) (dg a):=(hr.2.1.sub hnd).congr fun j hj=>by rw[<- hs];exact(yc5 hr.2.2.2 j (by omega)).symm
 refine⟨g,n,he,hnd,hr.2.2.1,hr.1,hl,hr.1,?_⟩
 have h2:=lw_own hr.2.1 hx hnd (by unfold maxLen;omega) hr.2.2.1
 have e2:limbs k (nd a) o=limbs k (nd a) (dg a):=by
  unfold limbs
  refine List.map_congr_left fun j hj=>?_
  rw[<- hs,yc5 hr.2.2.2 j (by have:=List.mem_range.1 hj;omega)]
 rw[e2] at h2
 exact h2
def lenOf:Value->Nat
 | .slice _ n _=>n
 | _=>0
def DivS (w wr:World) (gu gv gq N m p X V k:Nat):Prop:=
 Below w.heap.size w wr/\Lw .u32 wr gv 226 m (dg V)/\Lw .u32 wr gq 226 p (lowz (X / V) k)/\
 ∃ o,Lw .u32 wr gu 226 N o/\(∀ j,j<N->o j<1000000000)/\sumTo o N=X % (V*pw k)
def DivI (w wr:World) (gu gv gq N m p X V k:Nat) (o:Nat->Nat):Prop:=
 Below w.heap.size w wr/\Lw .u32 wr gv 226 m (dg V)/\Lw .u32 wr gq 226 p (lowz (X / V) k)/\Lw .u32 wr gu 226 N o
theorem ygf {w wr w':World} {g:Nat} (h:Below w.heap.size w wr) (k:wr.grownBy w' (some g)) (hg:w.heap.size<=g):Below w.heap.size w w':=
 h.trans ⟨k.os,k.tape,k.output,k.size,fun i hi=>k.block i (Nat.lt_of_lt_of_le hi h.size) (fun e=>by injection e with e;omega)⟩
theorem DivI.put {w wr:World} {gu gv gq N m p X V j d:Nat} {o:Nat->Nat} (h:DivI w wr gu gv gq N m p X V (j+1) o) (hb:∀ i,i<N->o i<1000000000) (hs:sumTo o N=X % (V*pw j)) (hd:d=dg (X / V) j)
  (n1:gv≠gq) (n2:gu≠gq) (n3:w.heap.size<=gq):DivS w (wr.setCell ⟨gq,j,none⟩ (.int .u32 ((d:Nat):Int))) gu gv gq N m p X V j:=
 ⟨h.1.setCell n3 _,h.2.1.other n1,(h.2.2.1.set j d).congr (fun i _=>by rw[hd];exact yjm i),o,h.2.2.2.other n2,hb,hs⟩
theorem yq1 (A1 A2:Option Addr) (c1 c2 a b:Nat) (w:World) (h1:Nt .u32 w w.heap.size A1 c1 a) (h2:Nt .u32 w w.heap.size A2 c2 b) (hn1:nd a<=900000) (hab:b<=a) (hb1:2<=nd b) :
  Calls Tryz.prog 208 #[.slice A1 (nd a) c1,.slice A2 (nd b) c2] w (GiveNN .u32 w (a / b) (a % b)):=by
 obtain⟨i0,hi,hz0,hz1,hz2⟩:=info_parts Tryz.infoU32
 have C1:=yex A1 A2 c1 c2 a b w h1 h2 (by omega)
 obtain⟨z,hz⟩:∃ z,cmpN a b=z:=⟨_,rfl⟩
 have hz0':¬z<0:=by rw[<- hz,ydl];omega
 rw[hz] at C1
 have hb0:b≠0:=by rintro rfl;rw[yar] at hb1;omega
 obtain⟨f,hf⟩:∃ f,f=1000000000 / (dg b (nd b - 1)+1):=⟨_,rfl⟩
 obtain⟨f1,f2,f3⟩:=yrx hb0 hf
 have hmn:=ybi hab
 have hv:nd (b*f)=nd b:=Nat.le_antisymm (nd_le f3) (ybi (Nat.le_mul_of_pos_right b f1))
 have hX:a*f<pw (nd a+1):=by
  rw[ybp,Nat.mul_comm 1000000000]
  exact Nat.mul_lt_mul'' (yba a) (by omega)
 obtain⟨E1,E2⟩:=ysw (a:=a) (b:=b) f1
 rw[<- E1,<- E2]
 have S1:=fun q=>yjz A2 c2 b f (w.drewN q) (h2.drewN q) (by omega) f1 (by omega)
 have S2:=fun w' (hb:Below w.heap.size w w')=>yjz A1 c1 a f w' (h1.up hb) (by omega) f1 (by omega)
 obtain⟨b1,o1,hA,hlt,q1⟩:=Fs.at_ h2 (show nd b - 1<nd b by omega)
 subst hA
 have hdt:=dg_lt b (nd b - 1)
 generalize dg b (nd b - 1)=tb at *
 have e0:(1000000000:Int) / ((tb:Int)+1)=(f:Int):=by rw[hf];simp
 obtain⟨m',hm'⟩:∃ m',nd b=m'+1:=⟨nd b - 1,by omega⟩
 have hm1:nd b - 1=m':=by omega
 rw[hm1] at q1
 generalize a*f=X at *
 generalize b*f=V at *
 have hXn:nd X<=nd a+1:=nd_le hX
 generalize nd b=m at *
 generalize nd a=n at *
 obtain⟨p,hp⟩:∃ p,n+2=m+p:=⟨n+2 - m,by omega⟩
 have hmk:=fun w=>run_make_row' (P:=Tryz.prog) 176 226 (.int .u32 0) 4 Tryz.underlying176 Tryz.infoU32 rfl .i64 .i64 p (by omega) (by omega) w
 have hV0:V≠0:=by rintro rfl;rw[yar] at hv;omega
 have HST:=zh (yqz (m:=p) hV0 (hv.trans hm') (by rw[show m'+p=n+1 by omega];exact hX))
 have HV:=zh hv
 have em:(m:Int) - 1=(m':Int):=by omega
 have tb1:(tb:Int)<=999999999:=by omega
 have ff1:(1:Int)<=(f:Int):=by omega
 have ff2:(f:Int)<=500000000:=by omega
 have HM:=zh hm'
 have HE1:=zh hX
 clear h1 h2 hz hab hf f1 f2 f3 E1 E2 hv hX hdt hb0 hm1 hm'
 go_enter Tryz.func208,Tryz.ntmps208
 go_wp2_with (first
  | (at_builtin;refine wpList_append_own_at _ rfl (.tmp 53) (.tmp 54) _ rfl w1.heap.size 226 i0 (.int .u32 0) 1 4 Tryz.underlying176 hi hz0 hz1 hz2 rfl (by decide) _ _ _ rfl (OU.out.2.alloc _) ⟨w2.heap.size,0,none⟩ 1 1 [.int .u32 0] rfl rfl (cell_one_new _ _ _) (ints_oneCell .u32 [0]) (by unfold maxLen;omega) (by omega) (yaa OU.out.1 _).size ?_;intro v3 w3 a3 g3 m3 l3;have B3:=zh (yan (OU.out.2.alloc _) (yaa OU.out.1 _) g3);have A3:=zh a3;clear a3 g3 m3 l3)
  | (go_at_call 237;(with_reducible refine C1.mono ?_);rintro e w2 ⟨rfl,k2,rfl⟩)
  | (go_at_call 239;((with_reducible refine(S2 _ B1.out).mono ?_);rintro e w2 hg;obtain⟨gx,nx,rfl,hnx,hgx,hbx,_,hown⟩:=hg.lw;have OU:=zh hown;have B2:=zh hbx;clear hown hbx hg))
  | (go_at_call 239;(with_reducible refine(S1 _).mono ?_);rintro e w1 hg;obtain⟨gv,nv,rfl,hnv,hgv,hbv,hlv,_⟩:=hg.lw;rw[HV.out] at hlv hnv ⊢;have LV:=zh hlv;have B1:=zh (yac (yab (Below.refl _ w) k2) hbv);have hgv':w.heap.size<=gv:=hgv;clear hlv hbv hg hgv))
 have hA:w3.ownsRow w1.heap.size 226 1 v3 (nd X+1) (limbs .u32 (nd X+1) (dg X)):=by
  rw[yec,ydu (Nat.le_refl _)];exact A3.out
 obtain⟨g3,c3,rfl,hc3,hg3,hl3⟩:=ymo hA (by omega)
 have R1:Hid (AppW .u32 w1 w3 226 (.slice (some ⟨g3,0,none⟩) (nd X+1) c3) (nd X+1) (dg X)):=⟨B3.out,hA⟩
 have hlN:nd X+1<=n+2:=by omega
 have HZ:=zh (fun k (hk:nd X+1<=k)=>ydu (show nd X<=k by omega))
 clear hA hl3 A3 OU S1 S2 C1 q1 e0 hg3 hc3 hgx hnx B2 B3
 generalize nd X+1=l at *
 go_loopw [10] (fun v wr=>∃ k c g,v=.slice (some ⟨g,0,none⟩) k c/\l<=k/\k<=n+2/\Hid (AppW .u32 w1 wr 226 v k (dg X))) (fun v _=>n+2 - lenOf v)
 case atStart=>exact⟨l,c3,g3,rfl,Nat.le_refl _,by omega,R1⟩
 case round=>
  clear R1
  obtain⟨k,c,g,rfl,hk1,hk2,hR⟩:=hrel
  by_cases hkN:k=n+2
  ·have hp':(k:Int) - (m:Int)=(p:Int):=by omega
   obtain⟨g6,c6,e6,hc6,hg6,hl6⟩:=ymo hR.out.2 (by omega)
   obtain⟨e7,e8⟩:g=g6/\c=c6:=by simpa using e6
   subst e7 e8
   have hgg:w.heap.size<=g:=Nat.le_trans B1.out.size hg6
   have hne:gv≠g:=by have:=LV.out.lt;omega
   have BW:=yac B1.out hR.out.1
   have LVr:=LV.out.below hR.out.1 LV.out.lt
   have hXk:X % pw k=X % (V*pw p):=by
    rw[Nat.mod_eq_of_lt HST.out,Nat.mod_eq_of_lt]
    refine Nat.lt_of_lt_of_le HE1.out (pw_le (by omega))
   have D0:Hid (DivS w (wr.alloc (.cells (madeCells #[.int .u32 0] p) 226)) g gv wr.heap.size k m p X V p):=
    ⟨BW.alloc (BW.size) _,LVr.alloc _,(Lw.made .u32 wr p 226).congr (fun j hj=>by unfold lowz;rw[if_neg (by omega)]),dg X,hl6.alloc _,fun j _=>dg_lt X j,by rw[yc2];exact hXk⟩
   have tvc:=(LVr.alloc (.cells (madeCells #[.int .u32 0] p) 226)).cell (show m'<m by omega)
   have htl:=dg_lt V m'
   have ht0:dg V m'≠0:=by have:=yor hV0;rwa [HV.out,HM.out,Nat.add_sub_cancel] at this
   obtain⟨tv,hv⟩:∃ tv,dg V m'=tv:=⟨_,rfl⟩
   rw[hv] at tvc htl ht0
   have HTV:=zh hv
   have tv1:(tv:Int)<=999999999:=by omega
   have tv0:(0:Int)<(tv:Int):=by omega
   have hgq:g≠wr.heap.size:=by have:=hl6.lt;omega
   have hgq2:gv≠wr.heap.size:=by have:=LVr.lt;omega
   have hgq3:=BW.size
   have hkN':k=m+p:=by omega
   have HKN:=zh hkN'
   have i2:¬(k:Int)<(n:Int)+2:=by omega
   have hkm:m<=k:=by omega
   have pb:(p:Int)<=900002:=by omega
   have kb:(k:Int)<=900002:=by omega
   have mb:(m:Int)<=900000:=by omega
   have HQ:=zh (yts HST.out)
   clear hR e6 hl6 LVr BW hXk hkN hv hg6 hk1 hk2 hkN' B1 LV HE1 HZ HST hlN hmn hXn hp hlt
   generalize hgQ:wr.heap.size=gq at *
   have HGQ:=zh hgQ
   clear hgQ
   go_wp2
   rw[HGQ.out]
   go_loopw [14] (fun i wr=>∃ kk:Nat,kk<=p/\i=.int .i64 ((kk:Int) - 1)/\Hid (DivS w wr g gv gq k m p X V kk)) (fun i _=>(intOf i+1).toNat)
   case atStart=>exact⟨p,Nat.le_refl _,rfl,D0⟩
   case round=>
    clear D0 tvc
    obtain⟨kk,hkk,rfl,hD⟩:=hrel
    obtain⟨hB,hLV,hLQ,o,hLU,hob,hsum⟩:=hD.out
    clear hD
    by_cases hk0:kk=0
    ·subst hk0
     rw[ybb,Nat.mul_one] at hsum
     obtain⟨R,hR⟩:∃ R,X % V=R:=⟨_,rfl⟩
     obtain⟨Q,hQ⟩:∃ Q,X / V=Q:=⟨_,rfl⟩
     have hRV:R<pw m:=by
      rw[<- hR,<- HV.out]
      exact Nat.lt_trans (Nat.mod_lt _ (Nat.pos_of_ne_zero hV0)) (yba V)
     rw[hR] at hsum
     rw[hQ] at hLQ HQ
     have HQE:=zh hQ
     have hom:=yix hob hkm
     rw[hsum,Nat.mod_eq_of_lt hRV] at hom
     have hob':∀ j,j<m->o j<1000000000:=fun j hj=>hob j (by omega)
     have F:=(hLU.sub hkm).fs (Nat.le_refl m) (show m<=c by omega)
     have T1:=ybo (some ⟨g,0,none⟩) m c o wr F hob' (by omega)
     have NR:=F.trimmed hob' (yhm hob')
     rw[hom] at T1 NR
     have S1:=yjk (some ⟨g,0,none⟩) c R f wr NR (by have:=nd_le hRV;omega) (by omega) (by omega)
     have hLz:Lw .u32 wr gq 226 p (dg Q):=hLQ.congr fun j _=>by unfold lowz;rw[if_pos (Nat.zero_le _)]
     have LQ:=zh hLz
     have HB:=zh hB
     have hQn:=nd_le HQ.out
     have hQs:sumTo (dg Q) p=Q:=by rw[yc2,Nat.mod_eq_of_lt HQ.out]
     have T2:=fun w5 (h5:Below wr.heap.size wr w5)=>ybo (some ⟨gq,0,none⟩) p p (dg Q) w5 ((hLz.below h5 hLz.lt).fs (Nat.le_refl _) (Nat.le_refl _)) (fun j _=>dg_lt Q j) (by omega)
     rw[hQs] at T2
     have NQ:=fun w5 (h5:Below wr.heap.size wr w5)=>show Nt .u32 w5 w5.heap.size (some ⟨gq,0,none⟩) p Q from(hLz.below h5 hLz.lt).fs hQn hQn
     have HNQ:=zh NQ
     have j0:(0:Int)<=(m:Int):=by omega
     obtain⟨y,hy⟩:∃ y,R / f=y:=⟨_,rfl⟩
     have HYE:=zh (show X % V / f=y by rw[hR];exact hy)
     rw[hy] at S1
     generalize R % f=y2 at *
     clear hR hQ hy hRV hom hob' F NR hLz hQs NQ hsum hob hLU hLQ hLV hB tv1 tv0 HTV ht0 htl
     go_wp2_with (first
      | (go_at_call 209;((with_reducible refine(T2 _ B5.out).mono ?_);rintro e w6 ⟨rfl,rfl⟩))
      | (go_at_call 209;(with_reducible refine T1.mono ?_);rintro e w6 ⟨rfl,rfl⟩)
      | (go_at_call 238;(with_reducible refine S1.mono ?_);rintro e w5 ⟨A5,c5,rfl,hN5,hb5⟩;have N5:=zh hN5;have B5:=zh hb5;clear hN5 hb5))
     go_ret2
     rw[HQE.out,HYE.out]
     exact⟨some ⟨gq,0,none⟩,p,A5,c5,rfl,HNQ.out _ B5.out,N5.out,HB.out.trans (B5.out.mono HB.out.size)⟩
    ·obtain⟨j,rfl⟩:∃ j,kk=j+1:=⟨kk - 1,by omega⟩
     have em2:((j+1:Nat):Int) - 1=(j:Int):=by omega
     rw[em2]
     obtain⟨R,hR⟩:∃ R,X % (V*pw (j+1))=R:=⟨_,rfl⟩
     have hRlt:=ysu hV0 hR.symm
     have hRpw:R<pw (m+(j+1)):=by have:=ysd hRlt;rwa [HV.out] at this
     obtain⟨D1,D2,D3⟩:=yqm (x:=X) (v:=V) (j:=j) hV0 hR.symm
     have G1:=yrj (u:=R) (v:=V) (n:=m') (j:=j) (top:=tv) (HV.out.trans HM.out) HTV.out.symm
     have hm1:=HM.out
     have hkN:=HKN.out
     have L2:=ypk (u:=R) (i:=j+m') (by rw[show j+m'+2=m+(j+1) by omega];exact hRpw)
     rw[hR] at hsum
     have o1:=yc5 hob (j+m'+1) (by omega)
     have o2:=yc5 hob (j+m') (by omega)
     rw[hsum] at o1 o2
     rw[o1,o2] at L2
     have x1:=hob (j+m'+1) (by omega)
     have x0:=hob (j+m') (by omega)
     obtain⟨d,hd⟩:∃ d,R / pw j / V=d:=⟨_,rfl⟩
     rw[hd] at D1 D2 D3 G1
     have hdl:d<1000000000:=by rw[D1];exact dg_lt _ _
     generalize hs1:j+m'+1=s1 at *
     generalize hs0:j+m'=s0 at *
     have tc1:=hLU.cell (show s1<k by omega)
     have tc0:=hLU.cell (show s0<k by omega)
     obtain⟨g0,hg0⟩:∃ g0,R / pw s0 / tv=g0:=⟨_,rfl⟩
     rw[hg0] at G1
     have e1:((o s1:Int)*1000000000+(o s0:Int)) / (tv:Int)=(g0:Int):=by rw[<- hg0,<- L2];simp
     have HD1:=zh D1
     have HR:=zh hR
     have HRpw:=zh hRpw
     have HD2:=zh D2
     have HD3:=zh D3
     have HSUM:=zh hsum
     have HOB:=zh hob
     have HLU:=zh hLU
     have HLV:=zh hLV
     have HLQ:=zh hLQ
     have HB:=zh hB
     have HDV:=zh hd
     generalize o s1=y1 at *
     generalize o s0=y0 at *
     have y1b:(y1:Int)<=999999999:=by omega
     have y0b:(y0:Int)<=999999999:=by omega
     have f1:(j:Int)+(m:Int)=(s1:Int):=by omega
     have f2:(s1:Int) - 1=(s0:Int):=by omega
     have f3:(s1:Int)<(k:Int):=by omega
     have f4:(s0:Int)<(k:Int):=by omega
     have f5:(j:Int)<(p:Int):=by omega
     have g0b:(g0:Int)<=999999999999999999:=by
      have:g0<=R / pw s0:=by rw[<- hg0];exact Nat.div_le_self _ _
      omega
     have w1:IntKind.i64.wrap (s1:Int)=(s1:Int):=IntWalk.i64_in _ (by constructor<;>omega)
     have w2:IntKind.i64.wrap (s0:Int)=(s0:Int):=IntWalk.i64_in _ (by constructor<;>omega)
     have w3:IntKind.u64.wrap ((y1:Int)*1000000000)=(y1:Int)*1000000000:=IntWalk.u64_in _ (by constructor<;>omega)
     have w4:IntKind.u64.wrap ((y1:Int)*1000000000+(y0:Int))=(y1:Int)*1000000000+(y0:Int):=IntWalk.u64_in _ (by constructor<;>omega)
     have w5:IntKind.u64.wrap (g0:Int)=(g0:Int):=IntWalk.u64_in _ (by constructor<;>omega)
     have w6:IntKind.u64.wrap (y1:Int)=(y1:Int):=IntWalk.u64_in _ (by constructor<;>omega)
     have w7:IntKind.u64.wrap (y0:Int)=(y0:Int):=IntWalk.u64_in _ (by constructor<;>omega)
     clear hR hRlt hRpw D1 D2 D3 L2 o1 o2 x1 x0 hd hs1 hs0 hsum hob hLU hLV hLQ hB em2 hg0 hm1 hkN
     go_wp2
     go_quiet (fail)
     rw[e1]
     clear e1 w3 w4 w6 w7 y1b y0b tc1 tc0 w1 w2 f3 f4
     have I0:Hid (DivS w (wr.drewN nq) g gv gq k m p X V (j+1)):=⟨yab HB.out nq,HLV.out,HLQ.out,o,HLU.out,HOB.out,by rw[HR.out];exact HSUM.out⟩
     clear HB HLV HLQ HLU HOB HSUM
     go_wp2
     all_goals
      go_loopw [15] (fun gs wy=>∃ s:Nat,d<=s/\s<=999999999/\gs=.int .u64 (s:Int)/\Hid (DivS w wy g gv gq k m p X V (j+1))) (fun gs _=>(intOf gs).toNat)
      case atStart=>first|exact⟨g0,G1,by omega,rfl,I0⟩|exact⟨999999999,by omega,by omega,rfl,I0⟩
      case round=>
       clear I0
       obtain⟨s,hs1,hs2,rfl,hI⟩:=hrel
       obtain⟨hB,hLV,hLQ,o,hLU,hob,hsum⟩:=hI.out
       rw[HR.out] at hsum
       clear hI
       by_cases hs0:s=0
       ·have hd0:d=0:=by omega
        have D0:=zh (DivI.put ⟨hB,hLV,hLQ,hLU⟩ hob (by rw[hsum,<- HD2.out,hd0];simp) (hd0.symm.trans HD1.out) hgq2 hgq hgq3)
        have tcq:=hLQ.cell (show j<p by omega)
        have tfq:=hLQ.frozen j
        subst hs0
        clear hsum hob hLU hLQ hLV hB
        go_wp2_with fail
        go_roundw
        case rel=>exact⟨j,by omega,rfl,D0⟩
        case measure=>simp only[intOf];omega
       ·have sp:(0:Int)<(s:Int):=by omega
        have sb:(s:Int)<=999999999:=by omega
        have hkN:=HKN.out
        have hW:=ys8 (j:=j) (m:=m+1) hob (by omega) (by rw[hsum,show j+(m+1)=m+(j+1) by omega];exact HRpw.out)
        rw[hsum] at hW
        have hdiv:=yof (X:=R / pw j) (s:=s) hV0
        rw[HDV.out] at hdiv
        have T:=yq6 g j (m+1) (c - j) k s V (some ⟨gv,0,none⟩) nv o wr hLU hob (by omega) (by omega) (by omega) (hLV.nt HV.out hnv) (by rw[HV.out];omega) (by omega) (by omega) (by
         rw[hW,hdiv]
         intro h5
         have h6:=ynd (X:=R / pw j) (s:=s) hV0 (by rw[HDV.out];omega)
         rw[HV.out] at h6
         omega)
        rw[HV.out,hW] at T
        have HB:=zh hB
        have HLV:=zh hLV
        have HLQ:=zh hLQ
        have HSUM:=zh hsum
        have HW:=zh hW
        have hjk:j+(m+1)<=k:=by omega
        have fl:s1+1 - j=m+1:=by omega
        clear hB hLV hLQ hLU hob hsum hkN
        by_cases hsd:s=d
        ·have hle:V*s<=R / pw j:=hdiv.2 (by omega)
         have HLE:=zh hle
         have HSD:=zh hsd
         clear hsd hle hdiv hW
         go_wp2_with (go_at_call 240;(with_reducible refine T.mono ?_);rintro e w6 ⟨he,hgr,o',hL',hb',hout,hsm⟩;rw[decide_eq_true HLE.out] at he;subst he;rw[if_pos HLE.out] at hsm;have S6:=yhr hjk hout (by rw[HW.out];exact HLE.out) (by rw[hsm,HW.out]);rw[HSUM.out,HSD.out,HD2.out] at S6;have hQ6:=HLQ.out.grown hgr (fun e=>hgq e.symm);have D6:=zh (DivI.put ⟨ygf HB.out hgr hgg,HLV.out.grown hgr hne,hQ6,hL'⟩ hb' S6 (HSD.out.trans HD1.out) hgq2 hgq hgq3);have tcq:=hQ6.cell (show j<p by omega);have tfq:=hQ6.frozen j;clear hgr hL' hb' hout hsm S6 hQ6)
         go_roundw
         case rel=>exact⟨j,by omega,rfl,D6⟩
         case measure=>simp only[intOf];omega
        ·have hle:¬V*s<=R / pw j:=fun h=>by have:=hdiv.1 h;omega
         have HLE:=zh hle
         have hsd':d<s:=by omega
         have HHR:=zh (show R=X % (V*pw (j+1)) from HR.out.symm)
         clear hsd hle hdiv hW
         go_wp2_with (go_at_call 240;(with_reducible refine T.mono ?_);rintro e w6 ⟨he,hgr,o',hL',hb',hout,hsm⟩;rw[decide_eq_false HLE.out] at he;subst he;rw[if_neg HLE.out] at hsm;have S6:=yhr (d:=0) hjk hout (Nat.zero_le _) (by rw[hsm,HW.out];rfl);rw[HSUM.out,Nat.zero_mul,Nat.sub_zero,HHR.out] at S6;have D6:Hid (DivS w w6 g gv gq k m p X V (j+1)):=⟨ygf HB.out hgr hgg,HLV.out.grown hgr hne,HLQ.out.grown hgr (fun e=>hgq e.symm),o',hL',hb',S6⟩;clear hgr hL' hb' hout hsm S6)
         go_roundw
         case rel=>exact⟨s - 1,by omega,by omega,by go_num,D6⟩
         case measure=>simp only[intOf];omega
  ·have i1:(k:Int)<(n:Int)+2:=by omega
   have hB:=zh hR.out.1
   have hO:=zh hR.out.2
   have hz:=HZ.out k hk1
   have HK:=zh hz
   clear hR hz hkN
   go_wp2_with (at_builtin;refine wpList_append_own_at _ rfl (.tmp 62) (.tmp 63) _ rfl w1.heap.size 226 i0 (.int .u32 0) 1 4 Tryz.underlying176 hi hz0 hz1 hz2 rfl (by decide) _ _ _ rfl (hO.out.alloc _) ⟨wr.heap.size,0,none⟩ 1 1 [.int .u32 0] rfl rfl (cell_one_new _ _ _) (ints_oneCell .u32 [0]) (by unfold maxLen;omega) (by omega) (yaa hB.out _).size ?_;intro v4 w4 a4 g4 m4 l4;have B4:=zh (yan (hO.out.alloc _) (yaa hB.out _) g4);have A4:=zh a4;clear a4 g4 m4 l4)
   have hA:w4.ownsRow w1.heap.size 226 1 v4 (k+1) (limbs .u32 (k+1) (dg X)):=by
    rw[yec,HK.out];exact A4.out
   obtain⟨g5,c5,rfl,hc5,hg5,hl5⟩:=ymo hA (by omega)
   have R2:Hid (AppW .u32 w1 w4 226 (.slice (some ⟨g5,0,none⟩) (k+1) c5) (k+1) (dg X)):=⟨B4.out,hA⟩
   clear hA hl5 hg5 hc5 A4 B4 hB hO
   go_roundw
   case rel=>exact⟨k+1,c5,g5,rfl,by omega,by omega,R2⟩
   case measure=>simp only[lenOf];omega
theorem ypc (A1 A2:Option Addr) (c1 c2 a b:Nat) (w:World) (h1:Nt .u32 w w.heap.size A1 c1 a) (h2:Nt .u32 w w.heap.size A2 c2 b) (hn1:nd a<=900000) (hb:b≠0) :
  Calls Tryz.prog 208 #[.slice A1 (nd a) c1,.slice A2 (nd b) c2] w (GiveNN .u32 w (a / b) (a % b)):=by
 rcases Nat.lt_or_ge a b with h|h
 ·exact yqs A1 A2 c1 c2 a b w h1 h2 hn1 h
 ·by_cases h3:nd b=1
  ·exact div_one A1 A2 c1 c2 a b w h1 h2 hn1 h h3
  ·exact yq1 A1 A2 c1 c2 a b w h1 h2 hn1 h (by have:=ydp hb;omega)
def cellN (w:World) (p:Addr):Nat:=match w.cell? p with
 | some (.int _ i)=>i.toNat
 | _=>0
def numIn (w:World):Value->Nat
 | .slice (some ad) n _=>sumTo (fun j=>cellN w ⟨ad.block,ad.off+j,none⟩) n
 | _=>0
theorem ymi {k:IntKind} {w:World} {B:Nat} {A:Option Addr} {c a:Nat} (h:Nt k w B A c a):numIn w (.slice A (nd a) c)=a:=by
 by_cases h0:nd a=0
 ·have:=nd_eq_zero.1 h0
  subst this
  cases A with
  | none=>rfl
  | some ad=>rw[yar];rfl
 ·obtain⟨b,off,rfl,_,hc⟩:=h.2.2 (Nat.pos_of_ne_zero h0)
  show sumTo (fun j=>cellN w ⟨b,off+j,none⟩) (nd a)=a
  rw[ya9 (o':=dg a) (fun j hj=>?_),yc2,yb4 (Nat.le_refl _)]
  show cellN w ⟨b,off+j,none⟩=dg a j
  unfold cellN
  rw[hc j hj]
  rfl
def GcdS (k:IntKind) (w wr:World) (g B:Nat) (va vb:Value) (y:Nat):Prop:=
 ∃ A c x A' c',va=.slice A (nd x) c/\vb=.slice A' (nd y) c'/\Nt k wr wr.heap.size A c x/\Nt k wr wr.heap.size A' c' y/\Below w.heap.size w wr/\Nat.gcd x y=g/\nd x<=B
theorem yp4 (A1 A2:Option Addr) (c1 c2 a b:Nat) (w:World) (h1:Nt .u32 w w.heap.size A1 c1 a) (h2:Nt .u32 w w.heap.size A2 c2 b) (hn1:nd a<=900000) (hn2:nd b<=900000) :
  Calls Tryz.prog 205 #[.slice A1 (nd a) c1,.slice A2 (nd b) c2] w (GiveN .u32 w (Nat.gcd a b)):=by
 have R0:Hid (∃ y,nd y<=900000/\GcdS .u32 w w (Nat.gcd a b) 900000 (.slice A1 (nd a) c1) (.slice A2 (nd b) c2) y):=⟨b,hn2,A1,c1,a,A2,c2,rfl,rfl,h1,h2,Below.refl _ _,rfl,hn1⟩
 clear h1 h2 hn1 hn2
 generalize Nat.gcd a b=g at *
 go_enter Tryz.func205,Tryz.ntmps205
 go_wp2
 go_loopw [0,1] (fun va vb wr=>∃ y,nd y<=900000/\Hid (GcdS .u32 w wr g 900000 va vb y)) (fun _ vb wr=>numIn wr vb)
 case atStart=>obtain⟨y,hy,h⟩:=R0.out;exact⟨y,hy,h⟩
 case round=>
  clear R0
  obtain⟨y,hy,hS⟩:=hrel
  obtain⟨A,c,x,A',c',rfl,rfl,hx,hyN,hB,hg,hxB⟩:=hS.out
  clear hS
  by_cases h0:y=0
  ·subst h0
   have e0:((nd 0:Nat):Int)=0:=by rw[yar];rfl
   rw[Nat.gcd_zero_right] at hg
   subst hg
   have G:=zh (show GiveN .u32 w x (.returned (.slice A (nd x) c)) wr from⟨A,c,rfl,hx,hB⟩)
   clear hx hyN hB
   go_wp2
   go_ret
   exact G.out
  ·have D:=ypc A A' c c' x y wr hx hyN (by omega) h0
   have HM:=zh (show numIn wr (.slice A' (nd y) c')=y from ymi hyN)
   have hyp:(0:Int)<(nd y:Int):=by have:=ydp h0;omega
   have HY:=zh hyN
   have HB:=zh hB
   have HG:=zh hg
   have H0:=zh h0
   clear hx hyN hB hg h0
   go_wp2_with (go_at_call 208;(with_reducible refine D.mono ?_);rintro e w1 ⟨A3,c3,A4,c4,rfl,h3,h4,hb⟩;have H4:=zh h4;have B4:=zh hb;clear h3 h4 hb)
   go_roundw
   case rel=>
    refine⟨x % y,?_,A',c',y,A4,c4,rfl,rfl,HY.out.up B4.out,H4.out,yac HB.out B4.out,?_,hy⟩
    ·exact Nat.le_trans (ybi (Nat.le_of_lt (Nat.mod_lt _ (Nat.pos_of_ne_zero H0.out)))) hy
    ·rw[<- HG.out,Nat.gcd_comm,<- Nat.gcd_rec,Nat.gcd_comm]
   case measure=>
    show numIn w1 (.slice A4 (nd (x % y)) c4)<numIn wr (.slice A' (nd y) c')
    rw[HM.out,ymi H4.out]
    exact Nat.mod_lt _ (Nat.pos_of_ne_zero H0.out)
end Go.Proofs.YtajmjllhdcdkmaaGreatDoor
