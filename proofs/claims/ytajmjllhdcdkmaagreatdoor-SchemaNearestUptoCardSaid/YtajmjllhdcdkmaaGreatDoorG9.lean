import Derived.Test.YtajmjllhdcdkmaaGreatDoorZ
import Derived.Test.YtajmjllhdcdkmaaGreatDoorG7
import Derived.Test.YtajmjllhdcdkmaaGreatDoorG8
import Derived.Test.YtajmjllhdcdkmaaGreatDoorG2
import Derived.Test.YtajmjllhdcdkmaaGreatDoorG4
import Derived.Test.YtajmjllhdcdkmaaGreatDoorG1
import Derived.Shelf.Strings.SlTrimAscii
import Derived.Shelf.Strings.Builder1
import Derived.Lib.SmallJoins
import Derived.Lib.AppendIntMem
import Derived.ShutString
import Derived.Lib.AtoiAllCases
set_option maxRecDepth 100000
set_option maxHeartbeats 3200000
namespace Go.Proofs.YtajmjllhdcdkmaaGreatDoor
open Go.RowKit Go.Sort Go.Joins Go.Proofs.YtajmjllhdcdkmaaGreatDoor.Dg Go.Proofs.YtajmjllhdcdkmaaGreatDoor.Str Go.Proofs.YtajmjllhdcdkmaaGreatDoor.Num
def Wf (w:World):Prop:=Lib.TabIs Tryz.prog w "internal/strconv.uint64pow10" .u64 Lib.pow10Tab/\
 (∃ tp p,w.var? Tryz.prog "strconv.ErrSyntax" = some #[.iface tp p])/\(∃ tp p,w.var? Tryz.prog "strconv.ErrRange" = some #[.iface tp p])
theorem Tryz.gPow:Tryz.prog.globalNamed "internal/strconv.uint64pow10" = some 5:=by kernel_rfl
theorem Tryz.gSyn:Tryz.prog.globalNamed "strconv.ErrSyntax" = some 3:=by kernel_rfl
theorem Tryz.gRng:Tryz.prog.globalNamed "strconv.ErrRange" = some 4:=by kernel_rfl
theorem Wf.up {w w':World} (h:Wf w) (hb:Below w.heap.size w w'):Wf w':=by
 obtain⟨h1,⟨t,p,h2⟩,⟨t',p',h3⟩⟩:=h
 exact⟨tab_stays Tryz.gPow h1 hb (Nat.le_refl _),⟨t,p,var_stays Tryz.gSyn h2 hb (Nat.le_refl _)⟩,⟨t',p',var_stays Tryz.gRng h3 hb (Nat.le_refl _)⟩⟩
def bl (S:ByteArray):List UInt8:=S.data.toList
theorem bl_mk (l:List UInt8):bl ⟨l.toArray⟩=l:=rfl
theorem mk_bl (S:ByteArray):(⟨(bl S).toArray⟩:ByteArray)=S:=by unfold bl;cases S;simp
theorem ye1 {S T:ByteArray} (h:bl S=bl T):S=T:=by rw[<- mk_bl S,<- mk_bl T,h]
theorem yag (S:ByteArray):(bl S).length=S.size:=(Lib.size_eq S).symm
theorem ydq (S T:ByteArray):bl (S++T)=bl S++bl T:=by unfold bl;rw[ByteArray.data_append];simp
theorem yc1 (S:ByteArray) (a b:Nat):bl (S.extract a b)=((bl S).drop a).take (b - a):=Lib.extract_data S a b
theorem emptyS (S:ByteArray):S.toList.isEmpty=decide (bl S=[]):=by
 rw[Lib.toList_data]
 show (bl S).isEmpty=_
 cases bl S<;>simp
theorem bl_eq {S:ByteArray} {l:List UInt8}:S=⟨l.toArray⟩ ↔ bl S=l:=⟨fun h=>by rw[h];rfl,fun h=>ye1 h⟩
theorem ydz (l:List UInt8) (c:UInt8):(Lib.indexByte l c = -1/\c ∉ l)\/∃ a b,l=a++c::b/\c ∉ a/\Lib.indexByte l c=(a.length:Int):=by
 induction l with
 | nil=>exact .inl ⟨rfl,by simp⟩
 | cons x l ih=>
  by_cases hx:x=c
  ·subst hx
   exact .inr ⟨[],l,rfl,by simp,by simp[Lib.indexByte]⟩
  ·have e:Lib.indexByte (x::l) c=if Lib.indexByte l c==-1 then -1 else Lib.indexByte l c+1:=by
    show (if x==c then 0 else _)=_
    rw[if_neg (by simpa using hx)]
   rw[e]
   rcases ih with ⟨h1,h2⟩|⟨a,b,h1,h2,h3⟩
   ·refine .inl ⟨by rw[h1];rfl,?_⟩
    intro h
    rcases List.mem_cons.1 h with h|h
    ·exact hx h.symm
    ·exact h2 h
   ·refine .inr ⟨x::a,b,by rw[h1];rfl,?_,?_⟩
    ·intro h
     rcases List.mem_cons.1 h with h|h
     ·exact hx h.symm
     ·exact h2 h
    ·have:(Lib.indexByte l c==-1)=false:=by rw[beq_eq_false_iff_ne];omega
     rw[this,h3]
     simp
def CutQ (S:ByteArray) (c:UInt8) (w:World) (e:Ending) (w':World):Prop:=
 ∃ (P R:ByteArray) (f:Bool),e=.returned (.tuple #[.string P,.string R,.bool f])/\(f=true->bl S=bl P++c::bl R/\c ∉ bl P)/\(f=false->P=S/\R=⟨#[]⟩/\c ∉ bl S)/\∃ n,w'=w.drewN n
theorem ykg (S:ByteArray) (c:UInt8) (hs:S.size<=9223372036854775807) (w:World):Calls Tryz.prog 136 #[.string S,.string ⟨#[c]⟩] w (CutQ S c w):=by
 have I:=Tryz.stringslite_Index_one S c w
 rcases ydz (bl S) c with ⟨h1,h2⟩|⟨a,b,h1,h2,h3⟩
 ·have e1:Lib.indexByte S.data.toList c = -1:=h1
  rw[e1] at I
  have H:=zh h2
  clear h1 h2 e1
  go_enter Tryz.func136,Tryz.ntmps136
  go_wp2_with (go_at_call 161;refine I.mono ?_;rintro e w1 ⟨rfl,rfl⟩)
  go_ret3
  exact⟨S,⟨#[]⟩,false,rfl,(fun h=>by cases h),fun _=>⟨rfl,rfl,H.out⟩,0,rfl⟩
 ·have e1:Lib.indexByte S.data.toList c=(a.length:Int):=h3
  rw[e1] at I
  have hl:S.size=a.length+1+b.length:=by rw[<- yag,h1];simp;omega
  have hP:bl (S.extract 0 a.length)=a:=by rw[yc1,h1];simp
  have hR:bl (S.extract (a.length+1) S.size)=b:=by rw[yc1,hl,h1];simp
  have HP:=zh hP
  have HR:=zh hR
  have H1:=zh h1
  have H2:=zh h2
  clear h1 h2 h3 e1 hP hR
  generalize a.length=n at *
  have i1:(n:Int)<=9223372036854775806:=by omega
  have i2:n<=S.size:=by omega
  have i3:n+1<=S.size:=by omega
  have i4:(n:Int)+1<=(S.size:Int):=by omega
  have w1:IntKind.i64.wrap ((n:Int)+1)=(n:Int)+1:=IntWalk.i64_in _ (by constructor<;>omega)
  clear hl
  go_enter Tryz.func136,Tryz.ntmps136
  go_wp2_with (go_at_call 161;refine I.mono ?_;rintro e w1 ⟨rfl,rfl⟩)
  go_quiet (fail)
  go_wp2
  go_ret3
  exact⟨_,_,true,rfl,fun _=>⟨by rw[HP.out,HR.out];exact H1.out,by rw[HP.out];exact H2.out⟩,(fun h=>by cases h),_,rfl⟩
theorem ypa (S:ByteArray) (c:UInt8) (hs:S.size<=9223372036854775807) (w:World):Calls Tryz.prog 93 #[.string S,.string ⟨#[c]⟩] w (CutQ S c w):=by
 have I:=ykg S c hs w
 go_enter Tryz.func93,Tryz.ntmps93
 go_wp2_with (go_at_call 136;refine I.mono ?_;rintro e w1 ⟨P,R,f,rfl,h1,h2,h3⟩;have H1:=zh h1;have H2:=zh h2;have H3:=zh h3;clear h1 h2 h3)
 go_ret3
 exact⟨P,R,f,rfl,H1.out,H2.out,H3.out⟩
theorem yhp (l:List UInt8):Lib.hasPrefix l [45]=isNeg l/\Lib.trimPrefix l [45]=body l:=by
 cases l with
 | nil=>exact⟨rfl,rfl⟩
 | cons x l=>
  have h:Lib.hasPrefix (x::l) [45]=isNeg (x::l):=by
   unfold Lib.hasPrefix isNeg
   show (45==x&&true)=(some x==some 45)
   rw[Bool.and_true,Bool.eq_iff_iff,beq_iff_eq,beq_iff_eq]
   exact⟨fun e=>by rw[e],fun e=>by injection e with e;exact e.symm⟩
  refine⟨h,?_⟩
  unfold Lib.trimPrefix body
  rw[h]
  split<;>rfl
theorem ymy (S:ByteArray) (w:World):Calls Tryz.prog 34 #[.string S,.string ⟨#[45]⟩] w fun e w'=>∃ R:ByteArray,e=.returned (.tuple #[.string R,.bool (isNeg (bl S))])/\bl R=body (bl S)/\w'=w:=by
 have h:=Tryz.strings_CutPrefix S ⟨#[45]⟩ w
 obtain⟨h1,h2⟩:=yhp (bl S)
 refine h.mono ?_
 rintro e w' ⟨rfl,rfl⟩
 refine⟨⟨(Lib.trimPrefix S.data.toList [45]).toArray⟩,?_,h2,rfl⟩
 rw[<- h1];rfl
theorem ylb (S:ByteArray) (w:World):Calls Tryz.prog 169 #[.string S,.string ⟨#[45]⟩] w fun e w'=>∃ R:ByteArray,e=.returned (.string R)/\bl R=body (bl S)/\w'=w:=by
 have h:=Tryz.strings_TrimPrefix S ⟨#[45]⟩ w
 obtain⟨h1,h2⟩:=yhp (bl S)
 refine h.mono ?_
 rintro e w' ⟨rfl,rfl⟩
 exact⟨⟨(Lib.trimPrefix S.data.toList [45]).toArray⟩,rfl,h2,rfl⟩
theorem yfc (l:List UInt8):(body l).length<=l.length:=by unfold body;split<;>simp
theorem yil (n:Nat) (hn:n<=9223372036854775807) (w:World) (hw:Wf w) :
  Calls Tryz.prog 146 #[.int .i64 (n:Int)] w fun e w'=>∃ R:ByteArray,e=.returned (.string R)/\bl R=Lib.decDigits n/\Below w.heap.size w w':=by
 refine(Tryz.strconv_Itoa (n:Int) (by omega) (by omega) w hw.1).mono ?_
 rintro e w' ⟨rfl,k,os,rfl⟩
 refine⟨_,rfl,?_,Lib.below_grow _ w (Nat.le_refl _) k os⟩
 rw[bl_mk]
 unfold Lib.itoa
 rw[if_neg (by omega),Int.toNat_natCast]
theorem Tryz.infoSet:(Tryz.prog.info? (Tryz.lays160_ren.t 116)).map (fun i=>(i.zero,i.size))=some (some (.agg (Array.replicate 256 (.bool false))),256):=by kernel_rfl
theorem ykk (S:ByteArray) (w:World) (hs:S.size<=9223372036854775807) :
  Calls Tryz.prog 254 #[.string S,.string ⟨#[48,49,50,51,52,53,54,55,56,57]⟩] w fun e w'=>e=.returned (.string ⟨(Lib.trimS S.data.toList cs10).toArray⟩)/\Below w.heap.size w w':=
 Any.strings_Trim_laid Tryz.lays160 Tryz.infoSet S ⟨#[48,49,50,51,52,53,54,55,56,57]⟩ w hs (by decide) (ascii_of_all (by decide))
theorem ybq (S:ByteArray) (hs:S.size<=9223372036854775807) (w:World):Calls Tryz.prog 233 #[.string S] w fun e w'=>e=.returned (.bool (decide (bl S≠[])&&allD (bl S)))/\Below w.heap.size w w':=by
 have T:=fun w=>ykk S w hs
 by_cases h0:S=⟨#[]⟩
 ·subst h0
  clear T
  go_enter Tryz.func233,Tryz.ntmps233
  go_wp2_with fail
  go_ret
  exact⟨rfl,Below.refl _ _⟩
 ·have e0:bl S≠[]:=fun e=>h0 (ye1 (by rw[e];rfl))
  have e1:=yky (bl S)
  have HE:=zh (show (decide (bl S≠[])&&allD (bl S))=allD (bl S) by rw[decide_eq_true e0,Bool.true_and])
  have hne:S.toList.isEmpty=false:=by rw[emptyS];exact decide_eq_false e0
  generalize hA:allD (bl S)=A at *
  obtain⟨T1,hT⟩:∃ T1:ByteArray,T1=⟨(Lib.trimS S.data.toList cs10).toArray⟩:=⟨_,rfl⟩
  rw[<- hT] at T
  have hT1:T1.toList.isEmpty=A:=by
   rw[emptyS,Bool.eq_iff_iff,decide_eq_true_iff,<- e1,hT]
   exact Iff.rfl
  clear e1 hT hA e0 h0
  go_enter Tryz.func233,Tryz.ntmps233
  go_wp2_with (go_at_call 254;refine(T _).mono ?_;rintro e w1 ⟨rfl,hb1⟩;have B1:=zh hb1;clear hb1)
  go_ret
  exact⟨by rw[HE.out];rfl,B1.out⟩
def Bd (w:World) (B b:Nat) (l:List UInt8):Prop:=Lib.IsBuilder 202 5 B b (Lib.byteCells l) w/\B<=w.heap.size
theorem Bd.up {w w':World} {B b:Nat} {l:List UInt8} (h:Bd w B b l) (hb:Below w.heap.size w w'):Bd w' B b l:=by
 have key:∀ {p:Value},Lib.BuilderAt 202 5 B b p (Lib.byteCells l) w->Lib.BuilderAt 202 5 B b p (Lib.byteCells l) w':=by
  intro p h
  have hlt:=h.lt
  obtain⟨h1,v,h2,h3,h4⟩:=h
  exact⟨h1,v,(hb.block b hlt).trans h2,h3.kept (ybm (g:=some b) hb) (.inr h4),h4⟩
 exact⟨h.1.imp key key,Nat.le_trans h.2 hb.size⟩
theorem Bd.fresh (w:World):Bd (w.alloc (.cells #[.pointer none,.slice none 0 0] 202)) w.heap.size w.heap.size []:=
 ⟨Lib.fresh_isBuilder _ _ w,by simp⟩
theorem Tryz.lays166':Go.Proofs.Lays.n166 Tryz.prog Tryz.lays105_ren:={ Tryz.lays105 with }
theorem yj2 (B b:Nat) (l:List UInt8) (S:ByteArray) (w:World) (h:Bd w B b l) (hl:l.length+S.size<=1000000000) :
  Calls Tryz.prog 144 #[.pointer (some ⟨b,0,none⟩),.string S] w fun e w'=>e=.returned (.tuple #[.int .i64 S.size,.nilIface])/\Bd w' B b (l++bl S)/\Below B w w':=by
 refine(Any.Builder_WriteString Tryz.lays166' Tryz.Builder_Extra_105 B b (Lib.byteCells l) S w h.1 (by rw[Lib.byteCells_length];omega) h.2).mono ?_
 rintro e w' ⟨rfl,h1,h2⟩
 refine⟨rfl,⟨?_,Nat.le_trans h.2 h2.size⟩,h2⟩
 rw[Lib.byteCells_append]
 exact .inr h1
theorem yjs (B b:Nat) (l:List UInt8) (w:World) (h:Bd w B b l) :
  Calls Tryz.prog 145 #[.pointer (some ⟨b,0,none⟩)] w fun e w'=>e=.returned (.string ⟨l.toArray⟩)/\Below B w w':=
 Tryz.Builder_String_any B b l w h.1 h.2
theorem yme {n:Nat} (h:n<1000000000):(Lib.decDigits n).length<=9:=(ydd (by decide)).2 (by simpa using h)
theorem yn1 {a b:ByteArray} (h:a=b):Ending.returned (.string a)=.returned (.string b):=by rw[h]
theorem yn4 {n:Nat} (h:n<=9):bl ((⟨#[48,48,48,48,48,48,48,48,48]⟩:ByteArray).extract n 9)=List.replicate (9 - n) 48:=by
 rw[yc1]
 have e:bl ⟨#[48,48,48,48,48,48,48,48,48]⟩=List.replicate 9 48:=rfl
 rw[e,List.drop_replicate,List.take_replicate]
 congr 1;omega
theorem yeg (A:Option Addr) (c a:Nat) (w:World) (hw:Wf w) (h:Nt .u32 w w.heap.size A c a) (hn:nd a<=1000000) :
  Calls Tryz.prog 210 #[.slice A (nd a) c] w fun e w'=>e=.returned (.string ⟨(Lib.decDigits a).toArray⟩)/\Below w.heap.size w w':=by
 by_cases h0:a=0
 ·subst h0
  have e0:((nd 0:Nat):Int)=0:=by rw[yar];rfl
  have e1:Lib.decDigits 0=[48]:=yb0 (by decide)
  rw[e1]
  clear h hw
  go_enter Tryz.func210,Tryz.ntmps210
  go_wp2
  go_ret
  exact⟨rfl,Below.refl _ _⟩
 ·obtain⟨m,hm⟩:∃ m,nd a=m+1:=⟨nd a - 1,by have:=ydp h0;omega⟩
  have ht:=yf8 h0
  rw[hm,Nat.add_sub_cancel] at ht
  obtain⟨b1,o1,hA,hlt,q1⟩:=Fs.at_ h (show m<nd a by omega)
  have H:=zh h
  have hd:=dg_lt a m
  have hlen:(Lib.decDigits a).length<=9000009:=by
   refine(ydd (by decide)).2 (Nat.lt_of_lt_of_le (yba a) ?_)
   rw[yi8]
   exact(show ∀ k,9*nd a<=k->10 ^ (9*nd a)<=10 ^ k from fun k h=>Nat.pow_le_pow_right (by decide) h) 9000009 (by omega)
  subst hA
  obtain⟨t,hT⟩:∃ t,dg a m=t:=⟨_,rfl⟩
  rw[hT] at ht hd q1
  have HT:=zh ht
  have HW:=zh hw
  have hlen':∀ i,(Lib.decDigits (a / pw i)).length<=9000009:=fun i=>Nat.le_trans (by
   refine(ydd (yb1 a)).2 (Nat.lt_of_le_of_lt (Nat.div_le_self _ _) dec_lt)) hlen
  have HL:=zh hlen'
  have I1:=fun (w':World) (hb:Below w.heap.size w w')=>yil t (by omega) w' (hw.up hb)
  have b1':=zh (Bd.fresh w)
  have tb:(t:Int)<=999999999:=by omega
  have e1:((m+1:Nat):Int) - 1=(m:Int):=by omega
  have BA:=zh ((Below.refl w.heap.size w).alloc (Nat.le_refl _) (.cells #[.pointer none,.slice none 0 0] 202))
  have q2:(w.alloc (.cells #[.pointer none,.slice none 0 0] 202)).cell? ⟨b1,o1+m,none⟩=some (.int .u32 (t:Int)):=(BA.out.cell (p:=⟨b1,o1+m,none⟩) hlt).trans q1
  have hmk:(Lib.decDigits t).length<=9:=yme hd
  have HMK:=zh hmk
  have HM:=zh hm
  clear h hw ht hd hlen hlen' q1 hT h0
  rw[hm]
  generalize hN:nd a=n at hn
  have hmb:m<=999999:=by have:=HM.out;omega
  clear hN
  go_enter Tryz.func210,Tryz.ntmps210
  go_wp2_with (first
   | (go_at_call 144;refine(yj2 w.heap.size w.heap.size [] R _ (b1'.out.up BI.out) (by have:=yag R;rw[HR.out] at this;have:=HMK.out;simp;omega)).mono ?_;rintro e w2 ⟨rfl,hbd,hb2⟩;have BD:=zh hbd;have B2:=zh hb2;clear hbd hb2)
   | (go_at_call 146;refine(I1 _ BA.out).mono ?_;rintro e w1 ⟨R,rfl,hR,hb⟩;have HR:=zh hR;have BI:=zh hb;clear hR hb))
  have R0:Hid (Bd w2 w.heap.size w.heap.size (Lib.decDigits (a / pw m))/\Below w.heap.size w w2):=
   ⟨by have:=BD.out;rw[List.nil_append,HR.out,HT.out] at this;exact this,((BA.out).trans (BI.out.mono BA.out.size)).trans (B2.out)⟩
  go_loopw [4] (fun i wr=>∃ k:Nat,k<=m/\i=.int .i64 ((k:Int) - 1)/\Hid (Bd wr w.heap.size w.heap.size (Lib.decDigits (a / pw k))/\Below w.heap.size w wr)) (fun i _=>(intOf i+1).toNat)
  case atStart=>exact⟨m,Nat.le_refl _,by congr 1;omega,R0⟩
  case round=>
   clear R0 BD B2 BI HR BA b1' hmk e1 tb I1 q2 HMK
   obtain⟨k,hk,rfl,hR⟩:=hrel
   by_cases hk0:k=0
   ·subst hk0
    have BB:=yjs w.heap.size w.heap.size _ wr hR.out.1
    rw[ypr] at BB
    have HB:=zh hR.out.2
    clear hR
    go_wp2_with (go_at_call 145;refine BB.mono ?_;rintro e w3 ⟨rfl,hb3⟩;have B3:=zh hb3;clear hb3)
    go_ret
    exact⟨rfl,HB.out.trans B3.out⟩
   ·obtain⟨j,rfl⟩:∃ j,k=j+1:=⟨k - 1,by omega⟩
    have em2:((j+1:Nat):Int) - 1=(j:Int):=by omega
    rw[em2]
    have WS:=zh (yna (a:=a) (i:=j) (by have:=HM.out;omega))
    obtain⟨b2,o2,hA2,hlt2,q2⟩:=Fs.at_ H.out (show j<nd a by have:=HM.out;omega)
    injection hA2 with hA2
    injection hA2 with e2 e3
    subst e2 e3
    have p2:wr.cell? ⟨b1,o1+j,none⟩=some (.int .u32 (dg a j:Int)):=(hR.out.2.cell (p:=⟨b1,o1+j,none⟩) hlt2).trans q2
    have hd:=dg_lt a j
    have hdl:=HL.out (j+1)
    generalize dg a j=d at *
    have I2:=yil d (by omega) wr (HW.out.up hR.out.2)
    have hnine:=yme hd
    have PD:=zh (ycn 9 d (by simpa using hd) (by decide)).2
    have db:(d:Int)<=999999999:=by omega
    have HBd:=zh hR.out.1
    have HB:=zh hR.out.2
    have jm:(j:Int)<(m:Int)+1:=by omega
    have HDL:=zh hdl
    have HNI:=zh hnine
    have HWF:Hid (∀ R:ByteArray,bl R=Lib.decDigits d->bl ((⟨#[48,48,48,48,48,48,48,48,48]⟩:ByteArray).extract R.size 9++R)=pad 9 d/\R.size<=9):=by
     intro R hR
     have hRl:R.size<=9:=by rw[<- yag,hR];exact HNI.out
     refine⟨?_,hRl⟩
     rw[<- PD.out,ydq,yn4 hRl,<- yag,hR]
    clear hR q2 hd hdl hnine em2 hk0
    go_wp2_with (first
     | (go_at_call 144;refine(yj2 w.heap.size w.heap.size _ _ _ (HBd.out.up BI.out) (by have:=HDL.out;rw[<- yag,HWB.out.1,yeb];omega)).mono ?_;rintro e w2 ⟨rfl,hbd,hb2⟩;rw[HWB.out.1,<- WS.out] at hbd;have BD:=zh hbd;have B2:=zh hb2;clear hbd hb2)
     | (go_at_call 146;refine I2.mono ?_;rintro e w1 ⟨R,rfl,hR,hb⟩;have BI:=zh hb;have HWB:=zh (HWF.out R hR);have hRl:=HWB.out.2;clear hR hb))
    go_roundw
    case rel=>exact⟨j,by omega,rfl,BD.out,(HB.out.trans (BI.out.mono HB.out.size)).trans B2.out⟩
    case measure=>simp only[intOf];omega
theorem yfv:∀ (l:List UInt8) (acc:Nat),allD l=true->(acc+1)*10 ^ l.length<=10 ^ 18->Lib.parseUint10 acc l=.ok (l.foldl (fun a c=>10*a+(c.toNat - 48)) acc)
 | [],acc,_,_=>rfl
 | c::r,acc,h,hb=>by
  have h1:isD c=true/\allD r=true:=by simpa[allD] using h
  have hd:=of_decide_eq_true h1.1
  have hp:0<10 ^ r.length:=Nat.pow_pos (by decide)
  rw[List.length_cons,Nat.pow_succ] at hb
  have e1:(acc+1)*(10 ^ r.length*10)=(10*acc+10)*10 ^ r.length:=by rw[Nat.mul_comm (10 ^ r.length),<- Nat.mul_assoc];congr 1;omega
  rw[e1] at hb
  have h2:10*acc+10<=10 ^ 18:=Nat.le_trans (Nat.le_mul_of_pos_right _ hp) hb
  have hacc:acc<=99999999999999999:=by omega
  unfold Lib.parseUint10
  rw[if_pos hd,if_neg (by omega),if_neg (by omega),List.foldl_cons]
  have e2:acc*10+(c.toNat - 48)=10*acc+(c.toNat - 48):=by omega
  rw[e2]
  refine yfv r _ h1.2 (Nat.le_trans (Nat.mul_le_mul_right _ ?_) hb)
  omega
theorem ycw {l:List UInt8} (h:allD l=true) (hne:l≠[]) (hl:l.length<=18):Lib.atoiAll l=.ok (val l:Int):=by
 cases l with
 | nil=>exact absurd rfl hne
 | cons c r=>
  have hd:isD c=true:=yc3 h (by simp)
  have hd':=of_decide_eq_true hd
  have hm:Lib.parseMag (c::r)=.ok (val (c::r)):=by
   unfold Lib.parseMag
   rw[if_neg (by simp)]
   refine yfv (c::r) 0 h ?_
   rw[Nat.zero_add,Nat.one_mul]
   exact Nat.pow_le_pow_right (by decide) hl
  have hv:=yft (c::r) h
  have hv2:(10:Nat) ^ (c::r).length<=10 ^ 18:=Nat.pow_le_pow_right (by decide) hl
  have hv3:val (c::r)<1000000000000000000:=Nat.lt_of_lt_of_le hv hv2
  unfold Lib.atoiAll
  simp only[]
  rw[if_neg (by omega),hm]
  simp only[]
  rw[if_neg (by omega),if_neg (by omega),if_neg (by omega)]
def AtoiQ (S:ByteArray) (w:World) (e:Ending) (w':World):Prop:=
 ∃ v ev,e=.returned (.tuple #[.int .i64 v,ev])/\-9223372036854775808<=v/\v<=9223372036854775807/\(allD (bl S)=true->bl S≠[]->S.size<=18->v=(val (bl S):Int))/\
  (ev=.nilIface/\Lib.atoiAll (bl S)=.ok v\/(∃ t p,ev=.iface t p)/\∀ u,Lib.atoiAll (bl S)≠.ok u)/\Below w.heap.size w w'
theorem ymm (S:ByteArray) (hs:S.size<=1000000) (w:World) (hw:Wf w):Calls Tryz.prog 137 #[.string S] w (AtoiQ S w):=by
 cases h:Lib.atoiAll S.data.toList
 case ok v=>
  obtain⟨b1,b2⟩:=Lib.atoiAll_bounds h
  refine(Tryz.strconv_Atoi_ok S (by omega) v h w).mono ?_
  rintro e w' ⟨rfl,hw'⟩
  refine⟨v,.nilIface,rfl,b1,b2,fun h1 h2 h3=>?_,.inl ⟨rfl,h⟩,?_⟩
  ·have:=ycw h1 h2 (by rw[yag];exact h3)
   unfold bl at this
   rw[h] at this
   injection this
  ·rcases hw' with rfl|⟨t,rfl⟩
   ·exact Below.refl _ _
   ·exact below_bytesWorld _ _ _ _ (Nat.le_refl _)
 case range=>
  obtain⟨tp,p,hv⟩:=hw.2.2
  refine(Tryz.strconv_Atoi_range_var S (by omega) h tp p w hv).mono ?_
  rintro e w' ⟨N,rfl,_,_,hb⟩
  have hsat:Lib.atoiSat S.data.toList = -9223372036854775808\/Lib.atoiSat S.data.toList=9223372036854775807:=by
   unfold Lib.atoiSat;split
   ·exact .inl rfl
   ·exact .inr rfl
  refine⟨_,_,rfl,by omega,by omega,fun h1 h2 h3=>?_,.inr ⟨⟨_,_,rfl⟩,fun u hu=>?_⟩,hb⟩
  ·have:=ycw h1 h2 (by rw[yag];exact h3)
   unfold bl at this
   rw[h] at this
   cases this
  ·unfold bl at hu;rw[h] at hu;cases hu
 obtain⟨tp,p,hv⟩:=hw.2.1
 refine(Tryz.strconv_Atoi_syntax_var S (by omega) h tp p w hv).mono ?_
 rintro e w' ⟨N,rfl,_,_,hb⟩
 refine⟨0,_,rfl,by decide,by decide,fun h1 h2 h3=>?_,.inr ⟨⟨_,_,rfl⟩,fun u hu=>?_⟩,hb⟩
 ·have:=ycw h1 h2 (by rw[yag];exact h3)
  unfold bl at this
  rw[h] at this
  cases this
 ·unfold bl at hu;rw[h] at hu;cases hu
def DigQ (S:ByteArray) (w:World) (e:Ending) (w':World):Prop:=
 ∃ A n c o,e=.returned (.slice A n c)/\Fs .u32 w' w'.heap.size A n c o/\Below w.heap.size w w'/\n<=1000000/\(allD (bl S)=true->n=nd (val (bl S))/\∀ j,j<n->o j=dg (val (bl S)) j)
def DigS (S:ByteArray) (w wr:World) (R:ByteArray) (v:Value):Prop:=
 ∃ k o,(∃ t,bl S=bl R++t)/\AppW .u32 w wr 226 v k o/\k+R.size<=S.size/\(allD (bl S)=true->val (bl R)=val (bl S) / pw k/\∀ j,j<k->o j=dg (val (bl S)) j)
def sizeOf':Value->Nat
 | .string S=>S.size
 | _=>0
theorem yku {k:IntKind} {n:Nat} {o o':Nat->Nat} (h:∀ j,j<n->o j=o' j):limbs k n o=limbs k n o':=by
 unfold limbs
 exact List.map_congr_left fun j hj=>by rw[h j (List.mem_range.1 hj)]
theorem AppW.more {k:IntKind} {w wr w':World} {t:TypeId} {v:Value} {n:Nat} {o:Nat->Nat} (h:AppW k w wr t v n o) (hb:Below wr.heap.size wr w'):AppW k w w' t v n o:=
 ⟨yac h.1 hb,h.2.kept (ybm (g:=none) hb) (by
  rcases hv:v.ownBlock with _|g
  ·exact .inl rfl
  ·exact .inr (by simp))⟩
theorem ya4 (S:ByteArray) (hs:S.size<=1000000) (w:World) (hw:Wf w):Calls Tryz.prog 204 #[.string S] w (DigQ S w):=by
 obtain⟨i0,hi,hz0,hz1,hz2⟩:=info_parts Tryz.infoU32
 have R0:Hid (DigS S w w S (.slice none 0 0)):=⟨0,fun _=>0,⟨[],by simp⟩,⟨Below.refl _ _,World.ownsRow_nil w w.heap.size 226 1⟩,by omega,fun _=>⟨by rw[ybb,Nat.div_one],fun j hj=>absurd hj (by omega)⟩⟩
 have HW:=zh hw
 clear hw
 go_enter Tryz.func204,Tryz.ntmps204
 go_wp2
 go_loopw [0,3] (fun sv v wr=>∃ R:ByteArray,sv=.string R/\R.size<=S.size/\Hid (DigS S w wr R v)) (fun sv _ _=>sizeOf' sv)
 case atStart=>exact⟨S,rfl,Nat.le_refl _,R0⟩
 case round=>
  clear R0
  obtain⟨R,rfl,hRS,hS⟩:=hrel
  obtain⟨k,o,hpre,hA,hkS,hval⟩:=hS.out
  clear hS
  by_cases h0:R.size=0
  ·obtain⟨A',c',rfl,hF⟩:=ypm hA.2
   have hR0:bl R=[]:=List.eq_nil_of_length_eq_zero (by rw[yag];exact h0)
   rw[hR0] at hval
   have T:=yi4 A' k c' o wr hF (by omega)
   have HV:=zh hval
   have HF:=zh hF
   have HB:=zh hA.1
   have hkb:k<=1000000:=by omega
   clear hF hval hA hpre hR0 hkS
   go_wp2_with (go_at_call 209;(with_reducible refine T.mono ?_);rintro e w1 ⟨⟨n,hn,hz,ht,rfl⟩,rfl⟩;have HZ:=zh hz;have HT:=zh ht;clear hz ht)
   go_ret
   refine⟨A',n,c',o,rfl,HF.out.take hn,HB.out,by omega,fun hd=>?_⟩
   obtain⟨h1,h2⟩:=HV.out hd
   have hk:=yqp h1
   have hb:∀ j,j<k->o j<1000000000:=fun j hj=>by rw[h2 j hj];exact dg_lt _ _
   have hsum:sumTo o k=val (bl S):=by rw[ya9 h2,hk]
   refine⟨?_,fun j hj=>h2 j (by omega)⟩
   rw[<- hsum]
   exact(ypy hb hn HZ.out HT.out).symm
  ·obtain⟨q,hq⟩:∃ q,q=R.size - 9:=⟨_,rfl⟩
   have eR:bl R=bl (R.extract 0 q)++bl (R.extract q R.size):=by
    rw[yc1,yc1,List.drop_zero,Nat.sub_zero,List.take_of_length_le (l:=(bl R).drop q) (by rw[List.length_drop,yag];exact Nat.le_refl _),List.take_append_drop]
   have lC:(bl (R.extract q R.size)).length=R.size - q:=by rw[yc1,List.length_take,List.length_drop,yag];omega
   have lP:(bl (R.extract 0 q)).length=q:=by rw[yc1,List.length_take,List.length_drop,yag];omega
   have hC9:(bl (R.extract q R.size)).length=9\/(bl (R.extract 0 q)=[]/\(bl (R.extract q R.size)).length<=9):=by
    by_cases h9:9<=R.size
    ·exact .inl (by omega)
    ·exact .inr ⟨List.eq_nil_of_length_eq_zero (by omega),by omega⟩
   have hCne:bl (R.extract q R.size)≠[]:=fun e=>by rw[e] at lC;simp at lC;omega
   have sC:(R.extract q R.size).size=R.size - q:=by rw[<- yag];exact lC
   have sP:(R.extract 0 q).size=q:=by rw[<- yag];exact lP
   have AT:=ymm (R.extract q R.size) (by omega) wr (HW.out.up hA.1)
   have hA1:=zh hA
   have HER:=zh eR
   have HC9:=zh hC9
   have HCN:=zh hCne
   have HSC:=zh sC
   have HSP:=zh sP
   have HPRE:=zh hpre
   have HVAL:=zh hval
   clear eR lC lP hC9 hCne hpre hval hA sC sP
   have em:max 0 ((R.size:Int) - 9)=(q:Int):=by omega
   have i2:(0:Int)<(R.size:Int):=by omega
   have i3:(q:Int)<=(R.size:Int):=by omega
   have i4:q<=R.size:=by omega
   have hqR:q<R.size:=by omega
   have hRb:R.size<=1000000:=by omega
   clear hq h0
   have hkb:k<=1000000:=by omega
   go_wp2_with (first
    | (at_builtin;refine wpList_append_own_at _ rfl (.tmp 21) (.tmp 24) _ rfl w.heap.size 226 i0 (.int .u32 0) 1 4 Tryz.underlying176 hi hz0 hz1 hz2 rfl (by decide) _ _ _ rfl (OA.out.2.alloc _) ⟨w1.heap.size,0,none⟩ 1 1 [.int .u32 (x:Int)] rfl rfl (cell_one_new _ _ _) (ints_oneCell .u32 [(x:Int)]) (by unfold maxLen;omega) (by omega) (yaa OA.out.1 _).size ?_;intro v2 w2 a2 g2 m2 l2;have B2:=zh (yan (OA.out.2.alloc _) (yaa OA.out.1 _) g2);have A2:=zh a2;clear a2 g2 m2 l2)
    | (go_at_call 137;(with_reducible refine AT.mono ?_);rintro e w1 ⟨v1,ev,rfl,hv1,hv2,hv3,_,hb⟩;have OA:=zh (hA1.out.more hb);have V3:=zh hv3;obtain⟨x,hx⟩:∃ x:Nat,v1 % 4294967296=(x:Int):=⟨(v1 % 4294967296).toNat,by omega⟩;have HX:=zh hx;clear hb hv3))
   go_roundw
   case rel=>
    refine⟨R.extract 0 q,rfl,by rw[HSP.out];omega,zh ⟨k+1,upd o k x,?_,⟨B2.out,?_⟩,by rw[HSP.out];omega,fun hd=>?_⟩⟩
    ·obtain⟨t,ht⟩:=HPRE.out
     exact⟨bl (R.extract q R.size)++t,by rw[ht,HER.out];simp⟩
    ·have R2:=A2.out
     rw[yec,ycd,yku (o':=o) (fun j hj=>yfd o x (show j≠k by omega))]
     exact R2
    ·obtain⟨h1,h2⟩:=HVAL.out hd
     obtain⟨t,ht⟩:=HPRE.out
     have hdR:allD (bl R)=true:=by rw[ht,yat,Bool.and_eq_true] at hd;exact hd.1
     have hdC:allD (bl (R.extract q R.size))=true:=by rw[HER.out,yat,Bool.and_eq_true] at hdR;exact hdR.2
     obtain⟨r1,r2⟩:=yoq h1 HER.out HC9.out hdC
     have hlC:(bl (R.extract q R.size)).length<=9:=by rcases HC9.out with h|h<;>omega
     have e1:=V3.out hdC HCN.out (by rw[<- yag];omega)
     have hb9:=dg_lt (val (bl S)) k
     have hxe:x=dg (val (bl S)) k:=by
      have:=HX.out
      rw[e1,r1] at this
      omega
     refine⟨r2,fun j hj=>?_⟩
     by_cases hjk:j=k
     ·subst hjk;rw[ycd];exact hxe
     ·rw[yfd o x hjk];exact h2 j (by omega)
   case measure=>simp only[sizeOf'];rw[HSP.out];exact hqR
open Go.RowKit Go.Proofs.YtajmjllhdcdkmaaGreatDoor.Dg Go.Proofs.YtajmjllhdcdkmaaGreatDoor.Q
def Fr (w:World) (v:Value) (q:Rat):Prop:=
 ∃ A c A' c',v=.agg #[.bool (ngt q),.slice A (nd (top q)) c,.slice A' (nd q.den) c']/\Nt .u32 w w.heap.size A c (top q)/\Nt .u32 w w.heap.size A' c' q.den
theorem Fr.up {w w':World} {v:Value} {q:Rat} (h:Fr w v q) (hb:Below w.heap.size w w'):Fr w' v q:=by
 obtain⟨A,c,A',c',e,h1,h2⟩:=h
 exact⟨A,c,A',c',e,h1.up hb,h2.up hb⟩
def GiveF (w:World) (q:Rat) (e:Ending) (w':World):Prop:=∃ v,e=.returned v/\Fr w' v q/\Below w.heap.size w w'
theorem Fr.of_parts {w:World} {q:Rat} {b:Bool} {n d:Nat} {A A':Option Addr} {c c':Nat} (h1:ngt q=b) (h2:top q=n) (h3:q.den=d) (k1:Nt .u32 w w.heap.size A c n) (k2:Nt .u32 w w.heap.size A' c' d) :
  Fr w (.agg #[.bool b,.slice A (nd n) c,.slice A' (nd d) c']) q:=by
 subst h1 h2 h3
 exact⟨A,c,A',c',rfl,k1,k2⟩
theorem ye8:nd 1=1:=Nat.le_antisymm (yr3 (by decide)) (by rw[ydp (by decide)];omega)
theorem Nt.one (w:World) (t:TypeId):Nt .u32 (w.alloc (.cells #[.int .u32 1] t)) (w.alloc (.cells #[.int .u32 1] t)).heap.size (some ⟨w.heap.size,0,none⟩) 1 1:=by
 unfold Nt
 rw[ye8]
 refine⟨Nat.le_refl _,(fun e=>by cases e),fun _=>⟨w.heap.size,0,rfl,by simp,fun j hj=>?_⟩⟩
 obtain rfl:j=0:=by omega
 show (w.alloc (.cells #[.int .u32 1] t)).cell? ⟨w.heap.size,0,none⟩=_
 rw[World.cell?_alloc_mark]
 rfl
def Rs (w:World) (g:Nat) (a b c:Value) (t:TypeId):Prop:=w.heap[g]?=some (.cells #[a,b,c] t (0,0))
def notInt:Value->Bool
 | .int _ _=>false
 | _=>true
theorem Rs.below {w w':World} {g B:Nat} {a b c:Value} {t:TypeId} (h:Rs w g a b c t) (hb:Below B w w') (hg:g<B):Rs w' g a b c t:=(hb.block g hg).trans h
theorem Rs.cells {w:World} {g:Nat} {a b c:Value} {t:TypeId} (h:Rs w g a b c t):w.cell? ⟨g,0,none⟩=some a/\w.cell? ⟨g,1,none⟩=some b/\w.cell? ⟨g,2,none⟩=some c:=by
 unfold Rs at h
 refine⟨?_,?_,?_⟩<;>simp[World.cell?,h]
theorem Rs.frozen {w:World} {g:Nat} {a b c:Value} {t:TypeId} (h:Rs w g a b c t):w.frozen? ⟨g,0,none⟩=false/\w.frozen? ⟨g,1,none⟩=false/\w.frozen? ⟨g,2,none⟩=false:=by
 unfold Rs at h
 refine⟨?_,?_,?_⟩<;>simp[World.frozen?,h]
def put3 (w:World) (g:Nat) (a b c:Value):World:=((w.setCell ⟨g,0,none⟩ a).setCell ⟨g,1,none⟩ b).setCell ⟨g,2,none⟩ c
theorem ydt (w:World) (g:Nat) (a b c:Value):(put3 w g a b c).heap.size=w.heap.size:=by simp[put3,World.setCell]
theorem yfk (w:World) (g:Nat) (a b c:Value) {k:Nat} (hk:k≠g):(put3 w g a b c).heap[k]?=w.heap[k]?:=by
 simp only[put3,World.setCell,Array.getElem?_modify]
 rw[if_neg (fun e=>hk e.symm),if_neg (fun e=>hk e.symm),if_neg (fun e=>hk e.symm)]
theorem yaj {B g:Nat} {w0 w:World} {a b c:Value} (h:Below B w0 w) (hg:B<=g):Below B w0 (put3 w g a b c):=((h.setCell hg _).setCell hg _).setCell hg _
theorem Fs.put3 {k:IntKind} {w:World} {B n c g:Nat} {A:Option Addr} {o:Nat->Nat} {x y z a b d:Value} {t:TypeId} (h:Fs k w B A n c o) (hr:Rs w g x y z t) (hx:notInt x=true) (hy:notInt y=true) (hz:notInt z=true):Fs k (put3 w g a b d) B A n c o:=
 ⟨h.1,h.2.1,fun hn=>by
  obtain⟨bk,off,e,hlt,hc⟩:=h.2.2 hn
  refine⟨bk,off,e,hlt,fun j hj=>?_⟩
  have hne:bk≠g:=by
   rintro rfl
   have h1:=hc j hj
   unfold Rs at hr
   have h2:(#[x,y,z]:Array Value)[off+j]?=some (.int k ((o j:Nat):Int)):=by simpa[World.cell?,hr] using h1
   match hm:off+j,h2 with
   | 0,h2=>simp at h2;rw[h2] at hx;cases hx
   | 1,h2=>simp at h2;rw[h2] at hy;cases hy
   | 2,h2=>simp at h2;rw[h2] at hz;cases hz
   | m+3,h2=>simp at h2
  rw[<- hc j hj]
  simp only[World.cell?]
  rw[yfk w g a b d hne]⟩
theorem Nt.put3 {k:IntKind} {w:World} {A:Option Addr} {c v g:Nat} {x y z a b d:Value} {t:TypeId} (h:Nt k w w.heap.size A c v) (hr:Rs w g x y z t) (hx:notInt x=true) (hy:notInt y=true) (hz:notInt z=true) :
  Nt k (Go.Proofs.YtajmjllhdcdkmaaGreatDoor.put3 w g a b d) (Go.Proofs.YtajmjllhdcdkmaaGreatDoor.put3 w g a b d).heap.size A c v:=by
 rw[ydt]
 exact Fs.put3 h hr hx hy hz
theorem yda (b:Bool) (A1 A2:Option Addr) (c1 c2 n d:Nat) (hd:d≠0) (w:World) (h1:Nt .u32 w w.heap.size A1 c1 n) (h2:Nt .u32 w w.heap.size A2 c2 d) (hn1:nd n<=800000) (hn2:nd d<=800000) :
  Calls Tryz.prog 171 #[.bool b,.slice A1 (nd n) c1,.slice A2 (nd d) c2] w (GiveF w (mkRat (sg b n) d)):=by
 have Z:=fun w=>ye3 A1 c1 n w
 by_cases h0:n=0
 ·subst h0
  rw[decide_eq_true rfl] at Z
  have HM:=zh (ygv b d)
  clear h1 h2
  go_enter Tryz.func171,Tryz.ntmps171
  go_wp2_with (go_at_call 207;(with_reducible refine(Z _).mono ?_);rintro e w1 ⟨rfl,rfl⟩)
  refine bodyPost_ret (v:=.agg #[.bool false,.slice none 0 0,.slice (some ⟨w.heap.size+1,0,none⟩) 1 1]) (by simp[results,Tryz.results171,go_sem]) rfl ⟨_,rfl,?_,yaa ((Below.refl _ w).alloc (Nat.le_refl _) _) _⟩
  rw[HM.out]
  have N1:=Nt.one (w.alloc (.cells #[.bool false,.slice none 0 0,.slice (some ⟨w.heap.size+1,0,none⟩) 1 1] 178)) 226
  have e1:(w.alloc (.cells #[.bool false,.slice none 0 0,.slice (some ⟨w.heap.size+1,0,none⟩) 1 1] 178)).heap.size=w.heap.size+1:=by simp
  rw[e1] at N1
  have:=Fr.of_parts (q:=0) (b:=false) (n:=0) (d:=1) rfl rfl rfl (Nt.nil _ _ _) N1
  rw[yar,ye8] at this
  exact this
 ·have HZ:=zh h0
  rw[decide_eq_false h0] at Z
  by_cases h1d:d=1
  ·have O1:=fun (w1:World) (hb:Below w.heap.size w w1)=>ydb A2 c2 d w1 (h2.up hb)
   rw[decide_eq_true h1d] at O1
   have H1:=zh h1
   have H2:=zh h2
   have H1D:=zh h1d
   clear h1 h2 h1d h0
   go_enter Tryz.func171,Tryz.ntmps171
   go_wp2_with (first
    | (go_at_call 207;(with_reducible refine(Z _).mono ?_);rintro e w1 ⟨rfl,rfl⟩)
    | (go_at_call 206;refine(O1 _ ((Below.refl _ w).alloc (Nat.le_refl _) _)).mono ?_;rintro e w1 ⟨rfl,rfl⟩))
   refine bodyPost_ret (v:=.agg #[.bool b,.slice A1 (nd n) c1,.slice A2 (nd d) c2]) (by simp[results,Tryz.results171,go_sem]) rfl ⟨_,rfl,?_,(Below.refl _ w).alloc (Nat.le_refl _) _⟩
   have hb:=(Below.refl w.heap.size w).alloc (Nat.le_refl _) (.cells #[.bool b,.slice A1 (nd n) c1,.slice A2 (nd d) c2] 178)
   obtain⟨p1,p2,p3⟩:=Num.parts_of (b:=b) (n:=n) (d:=d) hd (fun _=>HZ.out) (by rw[H1D.out];exact Nat.gcd_one_right _)
   exact Fr.of_parts p3 p1 p2 (H1.out.up hb) (H2.out.up hb)
  ·have O1:=fun (w1:World) (hb:Below w.heap.size w w1)=>ydb A2 c2 d w1 (h2.up hb)
   rw[decide_eq_false h1d] at O1
   have B0:=zh ((Below.refl w.heap.size w).alloc (Nat.le_refl _) (.cells #[.bool false,.slice none 0 0,.slice none 0 0] 178))
   have R0:=zh (show Rs (w.alloc (.cells #[.bool false,.slice none 0 0,.slice none 0 0] 178)) w.heap.size (.bool false) (.slice none 0 0) (.slice none 0 0) 178 from Deep.blk_alloc_new w _)
   have GC:=yp4 A1 A2 c1 c2 n d _ (h1.up B0.out) (h2.up B0.out) (by omega) (by omega)
   have H1:=zh h1
   have H2:=zh h2
   have hg0:Nat.gcd n d≠0:=fun e=>hd (Nat.eq_zero_of_gcd_eq_zero_right e)
   have hPN:=zh (yij (b:=b) h0 hd)
   have hPT:=zh (yhy (b:=b) (n:=n) hd)
   have hPD:=zh (yir (b:=b) (n:=n) hd)
   generalize mkRat (sg b n) d=Q at *
   generalize Nat.gcd n d=g at *
   have hgs:w.heap.size<(w.alloc (.cells #[.bool false,.slice none 0 0,.slice none 0 0] 178)).heap.size:=by simp
   have HGS:=zh hgs
   clear h1 h2 h1d h0 hgs
   by_cases hg1:g=1
   ·subst hg1
    rw[Nat.div_one] at hPT hPD
    have O2:=fun w' A' c' h=>ydb A' c' 1 w' h
    rw[decide_eq_true rfl] at O2
    go_enter Tryz.func171,Tryz.ntmps171
    go_wp2_with (first
     | (go_at_call 205;refine GC.mono ?_;rintro e w2 ⟨Ag,cg,rfl,hNg,hbg⟩;have BG:=zh hbg;have NG:=zh hNg;have RG:=zh (R0.out.below hbg HGS.out);obtain⟨r0,r1,r2⟩:=RG.out.cells;obtain⟨f0,f1,f2⟩:=RG.out.frozen;clear hNg hbg)
     | (go_at_call 207;(with_reducible refine(Z _).mono ?_);rintro e w1 ⟨rfl,rfl⟩)
     | (go_at_call 206;(refine(O2 _ _ _ NG.out).mono ?_;rintro e w1 ⟨rfl,rfl⟩))
     | (go_at_call 206;refine(O1 _ B0.out).mono ?_;rintro e w1 ⟨rfl,rfl⟩))
    have N1:=((H1.out.up B0.out).up BG.out).put3 RG.out rfl rfl rfl (a:=.bool b) (b:=.slice A1 (nd n) c1) (d:=.slice A2 (nd d) c2)
    have N2:=((H2.out.up B0.out).up BG.out).put3 RG.out rfl rfl rfl (a:=.bool b) (b:=.slice A1 (nd n) c1) (d:=.slice A2 (nd d) c2)
    refine bodyPost_ret (v:=.agg #[.bool b,.slice A1 (nd n) c1,.slice A2 (nd d) c2]) (by simp[results,Tryz.results171,go_sem,r0,r1,r2]) rfl ⟨_,rfl,?_,yaj (B0.out.trans (BG.out.mono B0.out.size)) (Nat.le_refl _)⟩
    exact Fr.of_parts hPN.out hPT.out hPD.out N1 N2
   ·have O2:=fun w' A' c' h=>ydb A' c' g w' h
    rw[decide_eq_false hg1] at O2
    have HG0:=zh hg0
    have hnn:nd (n / g)<=800000:=Nat.le_trans (ybi (Nat.div_le_self _ _)) hn1
    have DV:=fun w' A A' c c' x h1 h2 hx=>ypc A A' c c' x g w' h1 h2 hx hg0
    clear hg0
    go_enter Tryz.func171,Tryz.ntmps171
    go_wp2_with (first
     | (go_at_call 208;(refine(DV _ _ _ _ _ _ ((H2.out.up B0.out).up (yac BG.out B3.out)) (NG.out.up B3.out) (by omega)).mono ?_;rintro e w4 ⟨A6,c6,A7,c7,rfl,hN6,hN7,hb4⟩;have B4:=zh (yac B3.out hb4);have N6:=zh hN6;have N4:=zh (N3.out.up hb4);have RG4:=zh (RG.out.below B4.out (Nat.lt_of_lt_of_le HGS.out BG.out.size));obtain⟨r0,r1,r2⟩:=RG4.out.cells;obtain⟨f0,f1,f2⟩:=RG4.out.frozen;clear hN6 hN7 hb4))
     | (go_at_call 208;refine(DV _ _ _ _ _ _ ((H1.out.up B0.out).up BG.out) NG.out (by omega)).mono ?_;rintro e w3 ⟨A4,c4,A5,c5,rfl,hN4,hN5,hb3⟩;have B3:=zh hb3;have N3:=zh hN4;clear hN4 hN5 hb3)
     | (go_at_call 205;refine GC.mono ?_;rintro e w2 ⟨Ag,cg,rfl,hNg,hbg⟩;have BG:=zh hbg;have NG:=zh hNg;have RG:=zh (R0.out.below hbg HGS.out);clear hNg hbg)
     | (go_at_call 207;(with_reducible refine(Z _).mono ?_);rintro e w1 ⟨rfl,rfl⟩)
     | (go_at_call 206;(refine(O2 _ _ _ NG.out).mono ?_;rintro e w1 ⟨rfl,rfl⟩))
     | (go_at_call 206;refine(O1 _ B0.out).mono ?_;rintro e w1 ⟨rfl,rfl⟩))
    have M1:=N4.out.put3 RG4.out rfl rfl rfl (a:=.bool b) (b:=.slice A4 (nd (n / g)) c4) (d:=.slice A6 (nd (d / g)) c6)
    have M2:=N6.out.put3 RG4.out rfl rfl rfl (a:=.bool b) (b:=.slice A4 (nd (n / g)) c4) (d:=.slice A6 (nd (d / g)) c6)
    refine bodyPost_ret (v:=.agg #[.bool b,.slice A4 (nd (n / g)) c4,.slice A6 (nd (d / g)) c6]) (by simp[results,Tryz.results171,go_sem,r0,r1,r2]) rfl ⟨_,rfl,?_,yaj (B0.out.trans ((yac BG.out B4.out).mono B0.out.size)) (Nat.le_refl _)⟩
    exact Fr.of_parts hPN.out hPT.out hPD.out M1 M2
open Go.RowKit Go.Proofs.YtajmjllhdcdkmaaGreatDoor.Num Go.Proofs.YtajmjllhdcdkmaaGreatDoor.Str
def isLow (c:UInt8):Bool:=decide (97<=c.toNat/\c.toNat<=122)
def isNm (c:UInt8):Bool:=isLow c||(c==95||isD c)
def nameB (l:List UInt8):Bool:=decide (l.length<=16)&&(l.head?.any isLow&&l.all isNm)
def pathB (l:List UInt8):Bool:=l==[47]||(l.head?==some 47&&((spl 47 l.tail).all nameB&&decide ((spl 47 l.tail).length<=4)))
def slashL (l:List UInt8):Nat:=l.length - (l.reverse.takeWhile (fun c=>c != 47)).length - 1
def parentB (l:List UInt8):Option (List UInt8):=if l=[47]\/pathB l=false then none else some (l.take (max (slashL l) 1))
def ascB (most:Nat) (l:List (List UInt8)):Bool:=l.all nameB&&(((l.zip l.tail).all fun x=>Op.bytesLess x.1 x.2)&&decide (l.length<=most))
theorem yin {α:Type} {r:α×α->Bool} {l:List α}:(l.zip l.tail).all r=true ↔ ∀ j b c,l[j]?=some b->l[j+1]?=some c->r (b,c)=true:=by
 rw[List.all_eq_true]
 constructor
 ·intro h j b c h1 h2
  exact h (b,c) (List.mem_of_getElem? (List.getElem?_zip_eq_some.2 ⟨h1,by rw[List.getElem?_tail];exact h2⟩))
 ·intro h x hx
  obtain⟨j,hj⟩:=List.mem_iff_getElem?.1 hx
  obtain⟨h1,h2⟩:=List.getElem?_zip_eq_some.1 hj
  rw[List.getElem?_tail] at h2
  exact h j x.1 x.2 h1 h2
def ascQ {α:Type} (q:α->Bool) (r:α->α->Bool) (l:List α):Bool:=l.all q&&(l.zip l.tail).all fun x=>r x.1 x.2
theorem ytn {α:Type} {q:α->Bool} {r:α->α->Bool} {l:List α} {k:Nat} {c:α} (h:ascQ q r (l.take k)=true) (hk:l[k]?=some c) (hc:q c=true) (hb:∀ j b,k=j+1->l[j]?=some b->r b c=true):ascQ q r (l.take (k+1))=true:=by
 unfold ascQ at h ⊢
 rw[Bool.and_eq_true,yin] at h ⊢
 refine⟨?_,fun j b d h1 h2=>?_⟩
 ·rw[List.take_add_one,hk,List.all_append,h.1]
  simp[hc]
 ·rw[List.getElem?_take] at h1 h2
  split at h2
  ·split at h1
   ·by_cases hj:j+1=k
    ·subst hj
     rw[hk] at h2
     injection h2 with h2
     subst h2
     exact hb j b rfl h1
    ·exact h.2 j b d (by rw[List.getElem?_take,if_pos (by omega)];exact h1) (by rw[List.getElem?_take,if_pos (by omega)];exact h2)
   ·cases h1
  ·cases h2
def ascP (l:List (List UInt8)):Bool:=ascQ nameB Op.bytesLess l
theorem yfn {l:List (List UInt8)} {k:Nat} {c:List UInt8} (h:ascP (l.take k)=true) (hk:l[k]?=some c) (hc:nameB c=true) (hb:∀ j b,k=j+1->l[j]?=some b->Op.bytesLess b c=true):ascP (l.take (k+1))=true:=ytn h hk hc hb
theorem yih {most:Nat} {l:List (List UInt8)} {k:Nat} {c:List UInt8} (hk:l[k]?=some c) (h:nameB c=false):ascB most l=false:=by
 unfold ascB
 have:l.all nameB=false:=by
  cases ha:l.all nameB
  ·rfl
  ·rw[List.all_eq_true.1 ha c (List.mem_of_getElem? hk)] at h;cases h
 rw[this];rfl
theorem yic {most:Nat} {l:List (List UInt8)} {k:Nat} {b c:List UInt8} (h1:l[k]?=some b) (h2:l[k+1]?=some c) (h:Op.bytesLess b c=false):ascB most l=false:=by
 unfold ascB
 have:((l.zip l.tail).all fun x=>Op.bytesLess x.1 x.2)=false:=by
  cases ha:((l.zip l.tail).all fun x=>Op.bytesLess x.1 x.2)
  ·rfl
  ·have:=yin.1 ha k b c h1 h2
   rw[h] at this;cases this
 rw[this]
 simp
theorem yiq {most:Nat} {l:List (List UInt8)} (h:ascP l=true):ascB most l=decide (l.length<=most):=by
 unfold ascP ascQ at h
 rw[Bool.and_eq_true] at h
 unfold ascB
 rw[h.1,h.2]
 rfl
theorem ygj:∀ a:List UInt8,Op.bytesLess a a=false
 | []=>rfl
 | a::x=>by
  have:=ygj x
  simp[Op.bytesLess,this]
theorem yl6:∀ {a b:List UInt8},Op.bytesLess a b=false->Op.bytesLess b a=false->a=b
 | [],[],_,_=>rfl
 | [],b::y,h,_=>by simp[Op.bytesLess] at h
 | a::x,[],_,h=>by simp[Op.bytesLess] at h
 | a::x,b::y,h1,h2=>by
  simp only[Op.bytesLess,Bool.or_eq_false_iff,Bool.and_eq_false_iff,decide_eq_false_iff_not,beq_eq_false_iff_ne] at h1 h2
  have e:a=b:=UInt8.le_antisymm (UInt8.not_lt.1 h2.1) (UInt8.not_lt.1 h1.1)
  subst e
  rw[yl6 (h1.2.resolve_left (fun h=>h rfl)) (h2.2.resolve_left (fun h=>h rfl))]
theorem yfs:∀ {a b c:List UInt8},Op.bytesLess a b=true->Op.bytesLess b c=true->Op.bytesLess a c=true
 | _,[],_,h,_=>by simp[Op.bytesLess] at h
 | _,_::_,[],_,h=>by simp[Op.bytesLess] at h
 | [],_::_,_::_,_,_=>by simp[Op.bytesLess]
 | a::x,b::y,c::z,h1,h2=>by
  simp only[Op.bytesLess,Bool.or_eq_true,Bool.and_eq_true,decide_eq_true_eq,beq_iff_eq] at h1 h2 ⊢
  rcases h1 with h1|⟨rfl,h1⟩<;>rcases h2 with h2|⟨rfl,h2⟩
  ·exact .inl (UInt8.lt_trans h1 h2)
  ·exact .inl h1
  ·exact .inl h2
  ·exact .inr ⟨rfl,yfs h1 h2⟩
theorem yto {a b:List UInt8} (h:Op.bytesLess a b=true):a≠b:=fun e=>by
 rw[e,ygj] at h
 cases h
open Go.RowKit Dg Q Num Str
def insAt {α:Type} (key:α->List UInt8) (n:List UInt8) (l:List α):Nat:=(l.takeWhile fun y=>Op.bytesLess (key y) n).length
def insB {α:Type} (key:α->List UInt8) (x:α) (l:List α):List α:=l.take (insAt key (key x) l)++x::l.drop (insAt key (key x) l)
def Asc {α:Type} (key:α->List UInt8) (l:List α):Prop:=l.Pairwise fun a b=>Op.bytesLess (key a) (key b)=true
theorem yq7 {α:Type} (key:α->List UInt8) (n:List UInt8) (l:List α):insAt key n l<=l.length:=by
 unfold insAt
 exact(List.takeWhile_sublist _).length_le
theorem ymj {α:Type} {key:α->List UInt8} {n:List UInt8}:∀ {l:List α} {k:Nat} {y:α},l[k]?=some y->k<insAt key n l->Op.bytesLess (key y) n=true
 | [],_,_,h,_=>by cases h
 | a::l,k,y,h,hk=>by
  unfold insAt at hk
  rw[List.takeWhile_cons] at hk
  cases ha:Op.bytesLess (key a) n
  ·rw[ha,if_neg (by decide)] at hk;cases hk
  ·rw[ha,if_pos rfl,List.length_cons] at hk
   cases k with
   | zero=>injection h with h;rw[<- h];exact ha
   | succ k=>exact ymj (l:=l) h (Nat.lt_of_succ_lt_succ hk)
theorem ymv {α:Type} {key:α->List UInt8} {n:List UInt8}:∀ {l:List α} {k:Nat} {y:α},Asc key l->l[k]?=some y->insAt key n l<=k->Op.bytesLess (key y) n=false
 | [],_,_,_,h,_=>by cases h
 | a::l,k,y,hs,h,hk=>by
  unfold Asc at hs
  rw[List.pairwise_cons] at hs
  unfold insAt at hk
  rw[List.takeWhile_cons] at hk
  cases ha:Op.bytesLess (key a) n
  ·cases k with
   | zero=>injection h with h;rw[<- h];exact ha
   | succ k=>
    have h1:=hs.1 y (List.mem_of_getElem? h)
    cases hy:Op.bytesLess (key y) n
    ·rfl
    ·rw[yfs h1 hy] at ha;cases ha
  ·rw[ha,if_pos rfl,List.length_cons] at hk
   cases k with
   | zero=>cases hk
   | succ k=>exact ymv (l:=l) hs.2 h (Nat.le_of_succ_le_succ hk)
theorem ylz {r:List UInt8->List UInt8->Bool} (ht:∀ {a b c},r a b=true->r b c=true->r a c=true):∀ {l:List (List UInt8)},(∀ j b c,l[j]?=some b->l[j+1]?=some c->r b c=true)->l.Pairwise fun a b=>r a b=true
 | [],_=>List.Pairwise.nil
 | [_],_=>List.Pairwise.cons (fun _ h=>by cases h) List.Pairwise.nil
 | a::b::l,h=>by
  have hi:=ylz (r:=r) ht (l:=b::l) fun j x y h1 h2=>h (j+1) x y h1 h2
  refine List.Pairwise.cons (fun c hc=>?_) hi
  have hab:=h 0 a b rfl rfl
  rcases List.mem_cons.1 hc with rfl|hc
  ·exact hab
  ·exact ht hab ((List.pairwise_cons.1 hi).1 c hc)
theorem yoj {most:Nat} {l:List (List UInt8)} (h:ascB most l=true):l.Pairwise fun a b=>Op.bytesLess a b=true:=by
 unfold ascB at h
 rw[Bool.and_eq_true,Bool.and_eq_true] at h
 exact ylz (r:=Op.bytesLess) yfs fun j b c h1 h2=>yin.1 h.2.1 j b c h1 h2
theorem yqf {α:Type} {key:α->List UInt8} {most:Nat} {l:List α} (h:ascB most (l.map key)=true):Asc key l:=by
 have:=yoj h
 rwa [List.pairwise_map] at this
theorem yrd {α:Type} {key:α->List UInt8} {x y:α} {l:List α}:y ∈ insB key x l ↔ y=x\/y ∈ l:=by
 unfold insB
 rw[List.mem_append,List.mem_cons]
 constructor
 ·rintro(h|h|h)
  ·exact .inr (List.mem_of_mem_take h)
  ·exact .inl h
  ·exact .inr (List.mem_of_mem_drop h)
 ·rintro(h|h)
  ·exact .inr (.inl h)
  ·rw[<- List.take_append_drop (insAt key (key x) l) l,List.mem_append] at h
   rcases h with h|h
   ·exact .inl h
   ·exact .inr (.inr h)
end Go.Proofs.YtajmjllhdcdkmaaGreatDoor
