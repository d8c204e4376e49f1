import Derived.Test.YtajmjllhdcdkmaaGreatDoorZ
import Derived.Test.YtajmjllhdcdkmaaGreatDoorG20
import Derived.Test.YtajmjllhdcdkmaaGreatDoorG12
set_option maxRecDepth 100000
set_option maxHeartbeats 3200000
namespace Go.Proofs.YtajmjllhdcdkmaaGreatDoor
open Go.RowKit Go.Sort Go.Joins Go.Proofs.YtajmjllhdcdkmaaGreatDoor.Dg Go.Proofs.YtajmjllhdcdkmaaGreatDoor.Q Go.Proofs.YtajmjllhdcdkmaaGreatDoor.Num Go.Proofs.YtajmjllhdcdkmaaGreatDoor.Str
theorem yik (S:ByteArray) (q:Rat) (hq:txt q=bl S) (hs:S.size<=1000000) (w:World) (hw:Wf w) :
  Calls Tryz.prog 134 #[.string S,.int .i64 10,.int .i64 8] w fun e w'=>∃ v ev,e=.returned (.tuple #[.int .i64 v,ev])/\(if q.den=1/\-((2 ^ (8 - 1):Nat):Int)<=q.num/\q.num<((2 ^ (8 - 1):Nat):Int) then ev=.nilIface else ∃ t p,ev=.iface t p)/\Below w.heap.size w w':=by
 have hI:=yf2 (B:=8) (by decide) (by decide) q
 rw[hq] at hI
 cases h:Lib.parseIntB 8 S.data.toList
 case ok v=>
  refine(Tryz.strconv_ParseInt_10_at8_ok S (by omega) v h w).mono ?_
  rintro e w' ⟨rfl,hw'⟩
  have h2:=(hI v).1 h
  refine⟨v,.nilIface,rfl,?_,?_⟩
  ·rw[if_pos ⟨h2.1,by rw[<- h2.2.1];exact h2.2.2⟩]
  ·rcases hw' with rfl|⟨t,rfl⟩
   ·exact Below.refl _ _
   ·exact below_bytesWorld _ _ _ _ (Nat.le_refl _)
 case range=>
  obtain⟨tp,p,hv⟩:=hw.2.2
  refine(Tryz.strconv_ParseInt_10_at8_range_var S (by omega) h tp p w hv).mono ?_
  rintro e w' ⟨N,rfl,_,_,hb⟩
  refine⟨_,_,rfl,?_,hb⟩
  rw[if_neg]
  ·exact⟨_,_,rfl⟩
  ·intro g
   have:=(hI q.num).2 ⟨g.1,rfl,g.2⟩
   unfold bl at this
   rw[h] at this;cases this
 obtain⟨tp,p,hv⟩:=hw.2.1
 refine(Tryz.strconv_ParseInt_10_at8_syntax_var S (by omega) h tp p w hv).mono ?_
 rintro e w' ⟨N,rfl,_,_,hb⟩
 refine⟨_,_,rfl,?_,hb⟩
 rw[if_neg]
 ·exact⟨_,_,rfl⟩
 ·intro g
  have:=(hI q.num).2 ⟨g.1,rfl,g.2⟩
  unfold bl at this
  rw[h] at this;cases this
theorem yg8 (S:ByteArray) (q:Rat) (hq:txt q=bl S) (hs:S.size<=1000000) (w:World) (hw:Wf w) :
  Calls Tryz.prog 134 #[.string S,.int .i64 10,.int .i64 16] w fun e w'=>∃ v ev,e=.returned (.tuple #[.int .i64 v,ev])/\(if q.den=1/\-((2 ^ (16 - 1):Nat):Int)<=q.num/\q.num<((2 ^ (16 - 1):Nat):Int) then ev=.nilIface else ∃ t p,ev=.iface t p)/\Below w.heap.size w w':=by
 have hI:=yf2 (B:=16) (by decide) (by decide) q
 rw[hq] at hI
 cases h:Lib.parseIntB 16 S.data.toList
 case ok v=>
  refine(Tryz.strconv_ParseInt_10_at16_ok S (by omega) v h w).mono ?_
  rintro e w' ⟨rfl,hw'⟩
  have h2:=(hI v).1 h
  refine⟨v,.nilIface,rfl,?_,?_⟩
  ·rw[if_pos ⟨h2.1,by rw[<- h2.2.1];exact h2.2.2⟩]
  ·rcases hw' with rfl|⟨t,rfl⟩
   ·exact Below.refl _ _
   ·exact below_bytesWorld _ _ _ _ (Nat.le_refl _)
 case range=>
  obtain⟨tp,p,hv⟩:=hw.2.2
  refine(Tryz.strconv_ParseInt_10_at16_range_var S (by omega) h tp p w hv).mono ?_
  rintro e w' ⟨N,rfl,_,_,hb⟩
  refine⟨_,_,rfl,?_,hb⟩
  rw[if_neg]
  ·exact⟨_,_,rfl⟩
  ·intro g
   have:=(hI q.num).2 ⟨g.1,rfl,g.2⟩
   unfold bl at this
   rw[h] at this;cases this
 obtain⟨tp,p,hv⟩:=hw.2.1
 refine(Tryz.strconv_ParseInt_10_at16_syntax_var S (by omega) h tp p w hv).mono ?_
 rintro e w' ⟨N,rfl,_,_,hb⟩
 refine⟨_,_,rfl,?_,hb⟩
 rw[if_neg]
 ·exact⟨_,_,rfl⟩
 ·intro g
  have:=(hI q.num).2 ⟨g.1,rfl,g.2⟩
  unfold bl at this
  rw[h] at this;cases this
theorem yha (S:ByteArray) (q:Rat) (hq:txt q=bl S) (hs:S.size<=1000000) (w:World) (hw:Wf w) :
  Calls Tryz.prog 134 #[.string S,.int .i64 10,.int .i64 32] w fun e w'=>∃ v ev,e=.returned (.tuple #[.int .i64 v,ev])/\(if q.den=1/\-((2 ^ (32 - 1):Nat):Int)<=q.num/\q.num<((2 ^ (32 - 1):Nat):Int) then ev=.nilIface else ∃ t p,ev=.iface t p)/\Below w.heap.size w w':=by
 have hI:=yf2 (B:=32) (by decide) (by decide) q
 rw[hq] at hI
 cases h:Lib.parseIntB 32 S.data.toList
 case ok v=>
  refine(Tryz.strconv_ParseInt_10_at32_ok S (by omega) v h w).mono ?_
  rintro e w' ⟨rfl,hw'⟩
  have h2:=(hI v).1 h
  refine⟨v,.nilIface,rfl,?_,?_⟩
  ·rw[if_pos ⟨h2.1,by rw[<- h2.2.1];exact h2.2.2⟩]
  ·rcases hw' with rfl|⟨t,rfl⟩
   ·exact Below.refl _ _
   ·exact below_bytesWorld _ _ _ _ (Nat.le_refl _)
 case range=>
  obtain⟨tp,p,hv⟩:=hw.2.2
  refine(Tryz.strconv_ParseInt_10_at32_range_var S (by omega) h tp p w hv).mono ?_
  rintro e w' ⟨N,rfl,_,_,hb⟩
  refine⟨_,_,rfl,?_,hb⟩
  rw[if_neg]
  ·exact⟨_,_,rfl⟩
  ·intro g
   have:=(hI q.num).2 ⟨g.1,rfl,g.2⟩
   unfold bl at this
   rw[h] at this;cases this
 obtain⟨tp,p,hv⟩:=hw.2.1
 refine(Tryz.strconv_ParseInt_10_at32_syntax_var S (by omega) h tp p w hv).mono ?_
 rintro e w' ⟨N,rfl,_,_,hb⟩
 refine⟨_,_,rfl,?_,hb⟩
 rw[if_neg]
 ·exact⟨_,_,rfl⟩
 ·intro g
  have:=(hI q.num).2 ⟨g.1,rfl,g.2⟩
  unfold bl at this
  rw[h] at this;cases this
theorem yg6 (S:ByteArray) (q:Rat) (hq:txt q=bl S) (hs:S.size<=1000000) (w:World) (hw:Wf w) :
  Calls Tryz.prog 134 #[.string S,.int .i64 10,.int .i64 64] w fun e w'=>∃ v ev,e=.returned (.tuple #[.int .i64 v,ev])/\(if q.den=1/\-((2 ^ (64 - 1):Nat):Int)<=q.num/\q.num<((2 ^ (64 - 1):Nat):Int) then ev=.nilIface else ∃ t p,ev=.iface t p)/\Below w.heap.size w w':=by
 have hI:=yf2 (B:=64) (by decide) (by decide) q
 rw[hq] at hI
 cases h:Lib.parseIntB 64 S.data.toList
 case ok v=>
  refine(Tryz.strconv_ParseInt_10_at64_ok S (by omega) v h w).mono ?_
  rintro e w' ⟨rfl,hw'⟩
  have h2:=(hI v).1 h
  refine⟨v,.nilIface,rfl,?_,?_⟩
  ·rw[if_pos ⟨h2.1,by rw[<- h2.2.1];exact h2.2.2⟩]
  ·rcases hw' with rfl|⟨t,rfl⟩
   ·exact Below.refl _ _
   ·exact below_bytesWorld _ _ _ _ (Nat.le_refl _)
 case range=>
  obtain⟨tp,p,hv⟩:=hw.2.2
  refine(Tryz.strconv_ParseInt_10_at64_range_var S (by omega) h tp p w hv).mono ?_
  rintro e w' ⟨N,rfl,_,_,hb⟩
  refine⟨_,_,rfl,?_,hb⟩
  rw[if_neg]
  ·exact⟨_,_,rfl⟩
  ·intro g
   have:=(hI q.num).2 ⟨g.1,rfl,g.2⟩
   unfold bl at this
   rw[h] at this;cases this
 obtain⟨tp,p,hv⟩:=hw.2.1
 refine(Tryz.strconv_ParseInt_10_at64_syntax_var S (by omega) h tp p w hv).mono ?_
 rintro e w' ⟨N,rfl,_,_,hb⟩
 refine⟨_,_,rfl,?_,hb⟩
 rw[if_neg]
 ·exact⟨_,_,rfl⟩
 ·intro g
  have:=(hI q.num).2 ⟨g.1,rfl,g.2⟩
  unfold bl at this
  rw[h] at this;cases this
theorem yfa (k:Int) (w:World):Calls Tryz.prog 132 #[.int .i64 k] w fun e w'=>e=.returned (.int .i64 ((bitsOf k:Nat):Int))/\w=w':=by
 by_cases h1:k=1
 ·subst h1
  go_enter Tryz.func132,Tryz.ntmps132
  go_wp2
  go_ret
  exact⟨rfl,by first|rfl|trivial⟩
 ·by_cases h2:k=2
  ·subst h2
   go_enter Tryz.func132,Tryz.ntmps132
   go_wp2
   go_ret
   exact⟨rfl,by first|rfl|trivial⟩
  ·by_cases h3:k=3
   ·subst h3
    go_enter Tryz.func132,Tryz.ntmps132
    go_wp2
    go_ret
    exact⟨rfl,by first|rfl|trivial⟩
   ·by_cases h4:k=4
    ·subst h4
     go_enter Tryz.func132,Tryz.ntmps132
     go_wp2
     go_ret
     exact⟨rfl,by first|rfl|trivial⟩
    ·have HB:=zh (show bitsOf k=0 by unfold bitsOf;rw[if_neg h1,if_neg h2,if_neg h3,if_neg h4])
     go_enter Tryz.func132,Tryz.ntmps132
     go_wp2
     go_ret
     exact⟨by rw[HB.out];rfl,by first|rfl|trivial⟩
theorem ym5 (k:Int) (S:ByteArray) (hs:S.size<=9223372036854775807) (w:World) (hw:Wf w) (h0:bitsOf k=0) :
  Calls Tryz.prog 87 #[.int .i64 k,.string S] w fun e w'=>e=.returned (.bool (qfits k (bl S)))/\Below w.heap.size w w':=by
 have BI:=fun w'=>yfa k w'
 rw[h0] at BI
 have VA:=fun w' (hb:Below w.heap.size w w')=>yb8 S hs w' (hw.up hb)
 have b:=zh (Below.refl w.heap.size w)
 have e1:=emptyS S
 obtain⟨X,hX⟩:∃ X,qfits k (bl S)=X:=⟨_,rfl⟩
 rw[hX]
 unfold qfits at hX
 rw[h0] at hX
 by_cases h5:k=5
 ·subst h5
  by_cases he:bl S=[]
  ·rw[decide_eq_true he] at e1
   have HX:=zh (show X=true by rw[<- hX,he];rfl)
   clear hs hw h0 he hX
   go_enter Tryz.func87,Tryz.ntmps87
   go_wp2_with (first
    | (go_at_call 132;((with_reducible refine(BI _).mono ?_);rintro e wn ⟨rfl,rfl⟩))
    | (go_at_call 133;((refine(VA _ b.out).mono ?_);rintro e wn ⟨rfl,hb⟩;replace b:=zh (yac b.out hb);clear hb)))
   go_ret
   exact⟨by rw[HX.out];rfl,b.out⟩
  ·rw[decide_eq_false he] at e1
   have HX:=zh (show X=(num? (bl S)).isSome by
    rw[<- hX]
    cases num? (bl S)<;>simp[he])
   clear hs hw h0 he hX
   generalize (num? (bl S)).isSome=c at *
   cases c
   all_goals
    go_enter Tryz.func87,Tryz.ntmps87
    go_wp2_with (first
     | (go_at_call 132;((with_reducible refine(BI _).mono ?_);rintro e wn ⟨rfl,rfl⟩))
     | (go_at_call 133;((refine(VA _ b.out).mono ?_);rintro e wn ⟨rfl,hb⟩;replace b:=zh (yac b.out hb);clear hb)))
    go_ret
    exact⟨by rw[HX.out];rfl,b.out⟩
 ·have HX:=zh (show X=false by rw[<- hX];exact if_pos (.inl ⟨rfl,h5⟩))
  clear hs hw h0 hX
  go_enter Tryz.func87,Tryz.ntmps87
  go_wp2_with (first
   | (go_at_call 132;((with_reducible refine(BI _).mono ?_);rintro e wn ⟨rfl,rfl⟩))
   | (go_at_call 133;((refine(VA _ b.out).mono ?_);rintro e wn ⟨rfl,hb⟩;replace b:=zh (yac b.out hb);clear hb)))
  go_ret
  exact⟨by rw[HX.out];rfl,b.out⟩
theorem ytg (S:ByteArray) (hs:S.size<=9223372036854775807) (w:World) (hw:Wf w) :
  Calls Tryz.prog 87 #[.int .i64 1,.string S] w fun e w'=>e=.returned (.bool (qfits 1 (bl S)))/\Below w.heap.size w w':=by
 have BI:=fun w'=>yfa 1 w'
 rw[show bitsOf 1=8 by decide] at BI
 have VA:=fun w' (hb:Below w.heap.size w w')=>yb8 S hs w' (hw.up hb)
 have b:=zh (Below.refl w.heap.size w)
 have e1:=emptyS S
 obtain⟨X,hX⟩:∃ X,qfits 1 (bl S)=X:=⟨_,rfl⟩
 rw[hX]
 unfold qfits at hX
 rw[show bitsOf 1=8 by decide] at hX
 by_cases he:bl S=[]
 ·rw[decide_eq_true he] at e1
  have HX:=zh (show X=true by rw[<- hX,he];rfl)
  clear hs hw he hX
  go_enter Tryz.func87,Tryz.ntmps87
  go_wp2_with (first
   | (go_at_call 132;((with_reducible refine(BI _).mono ?_);rintro e wn ⟨rfl,rfl⟩))
   | (go_at_call 133;((refine(VA _ b.out).mono ?_);rintro e wn ⟨rfl,hb⟩;replace b:=zh (yac b.out hb);clear hb)))
  go_ret
  exact⟨by rw[HX.out];rfl,b.out⟩
 ·rw[decide_eq_false he] at e1
  cases hn:num? (bl S) with
  | none=>
   rw[hn] at VA hX
   have HX:=zh (show X=false by rw[<- hX];exact if_pos (.inr ⟨he,rfl⟩))
   clear hs hw he hX hn
   go_enter Tryz.func87,Tryz.ntmps87
   go_wp2_with (first
    | (go_at_call 132;((with_reducible refine(BI _).mono ?_);rintro e wn ⟨rfl,rfl⟩))
    | (go_at_call 133;((refine(VA _ b.out).mono ?_);rintro e wn ⟨rfl,hb⟩;replace b:=zh (yac b.out hb);clear hb)))
   go_ret
   exact⟨by rw[HX.out];rfl,b.out⟩
  | some q=>
   obtain⟨ht,hsh⟩:=ycf.1 hn
   have hlen:=ycx hsh
   rw[ht,yag] at hlen
   have PI:=fun w' (hb:Below w.heap.size w w')=>yik S q ht (by omega) w' (hw.up hb)
   rw[hn] at VA hX
   rw[if_neg (fun h=>h.elim (fun g=>absurd g.1 (by decide)) (fun g=>nomatch g.2)),if_neg (fun h=>h.elim he (fun g=>absurd g (by decide)))] at hX
   by_cases hc:q.den=1/\-((2 ^ (8 - 1):Nat):Int)<=q.num/\q.num<((2 ^ (8 - 1):Nat):Int)
   ·have HX:=zh (show X=true by rw[<- hX];exact decide_eq_true hc)
    have PI:=fun w' hb=>(PI w' hb).mono fun e w2 h=>(show ∃ v,e=.returned (.tuple #[.int .i64 v,.nilIface])/\Below w'.heap.size w' w2 from by
     obtain⟨v,ev,rfl,h3,h4⟩:=h
     rw[if_pos hc] at h3
     subst h3
     exact⟨v,rfl,h4⟩)
    clear hs hw he hX hn ht hsh hlen hc
    go_enter Tryz.func87,Tryz.ntmps87
    go_wp2_with (first
     | (go_at_call 132;((with_reducible refine(BI _).mono ?_);rintro e wn ⟨rfl,rfl⟩))
     | (go_at_call 133;((refine(VA _ b.out).mono ?_);rintro e wn ⟨rfl,hb⟩;replace b:=zh (yac b.out hb);clear hb))
     | (go_at_call 134;((with_reducible refine(PI _ b.out).mono ?_);rintro e wn ⟨v,rfl,hb⟩;replace b:=zh (yac b.out hb);clear hb)))
    go_ret
    exact⟨by rw[HX.out];rfl,b.out⟩
   ·have HX:=zh (show X=false by rw[<- hX];exact decide_eq_false hc)
    have PI:=fun w' hb=>(PI w' hb).mono fun e w2 h=>(show ∃ v t p,e=.returned (.tuple #[.int .i64 v,.iface t p])/\Below w'.heap.size w' w2 from by
     obtain⟨v,ev,rfl,h3,h4⟩:=h
     rw[if_neg hc] at h3
     obtain⟨t,p,rfl⟩:=h3
     exact⟨v,t,p,rfl,h4⟩)
    clear hs hw he hX hn ht hsh hlen hc
    go_enter Tryz.func87,Tryz.ntmps87
    go_wp2_with (first
     | (go_at_call 132;((with_reducible refine(BI _).mono ?_);rintro e wn ⟨rfl,rfl⟩))
     | (go_at_call 133;((refine(VA _ b.out).mono ?_);rintro e wn ⟨rfl,hb⟩;replace b:=zh (yac b.out hb);clear hb))
     | (go_at_call 134;((with_reducible refine(PI _ b.out).mono ?_);rintro e wn ⟨v,t,p,rfl,hb⟩;replace b:=zh (yac b.out hb);clear hb)))
    go_ret
    exact⟨by rw[HX.out];rfl,b.out⟩
theorem yrn (S:ByteArray) (hs:S.size<=9223372036854775807) (w:World) (hw:Wf w) :
  Calls Tryz.prog 87 #[.int .i64 2,.string S] w fun e w'=>e=.returned (.bool (qfits 2 (bl S)))/\Below w.heap.size w w':=by
 have BI:=fun w'=>yfa 2 w'
 rw[show bitsOf 2=16 by decide] at BI
 have VA:=fun w' (hb:Below w.heap.size w w')=>yb8 S hs w' (hw.up hb)
 have b:=zh (Below.refl w.heap.size w)
 have e1:=emptyS S
 obtain⟨X,hX⟩:∃ X,qfits 2 (bl S)=X:=⟨_,rfl⟩
 rw[hX]
 unfold qfits at hX
 rw[show bitsOf 2=16 by decide] at hX
 by_cases he:bl S=[]
 ·rw[decide_eq_true he] at e1
  have HX:=zh (show X=true by rw[<- hX,he];rfl)
  clear hs hw he hX
  go_enter Tryz.func87,Tryz.ntmps87
  go_wp2_with (first
   | (go_at_call 132;((with_reducible refine(BI _).mono ?_);rintro e wn ⟨rfl,rfl⟩))
   | (go_at_call 133;((refine(VA _ b.out).mono ?_);rintro e wn ⟨rfl,hb⟩;replace b:=zh (yac b.out hb);clear hb)))
  go_ret
  exact⟨by rw[HX.out];rfl,b.out⟩
 ·rw[decide_eq_false he] at e1
  cases hn:num? (bl S) with
  | none=>
   rw[hn] at VA hX
   have HX:=zh (show X=false by rw[<- hX];exact if_pos (.inr ⟨he,rfl⟩))
   clear hs hw he hX hn
   go_enter Tryz.func87,Tryz.ntmps87
   go_wp2_with (first
    | (go_at_call 132;((with_reducible refine(BI _).mono ?_);rintro e wn ⟨rfl,rfl⟩))
    | (go_at_call 133;((refine(VA _ b.out).mono ?_);rintro e wn ⟨rfl,hb⟩;replace b:=zh (yac b.out hb);clear hb)))
   go_ret
   exact⟨by rw[HX.out];rfl,b.out⟩
  | some q=>
   obtain⟨ht,hsh⟩:=ycf.1 hn
   have hlen:=ycx hsh
   rw[ht,yag] at hlen
   have PI:=fun w' (hb:Below w.heap.size w w')=>yg8 S q ht (by omega) w' (hw.up hb)
   rw[hn] at VA hX
   rw[if_neg (fun h=>h.elim (fun g=>absurd g.1 (by decide)) (fun g=>nomatch g.2)),if_neg (fun h=>h.elim he (fun g=>absurd g (by decide)))] at hX
   by_cases hc:q.den=1/\-((2 ^ (16 - 1):Nat):Int)<=q.num/\q.num<((2 ^ (16 - 1):Nat):Int)
   ·have HX:=zh (show X=true by rw[<- hX];exact decide_eq_true hc)
    have PI:=fun w' hb=>(PI w' hb).mono fun e w2 h=>(show ∃ v,e=.returned (.tuple #[.int .i64 v,.nilIface])/\Below w'.heap.size w' w2 from by
     obtain⟨v,ev,rfl,h3,h4⟩:=h
     rw[if_pos hc] at h3
     subst h3
     exact⟨v,rfl,h4⟩)
    clear hs hw he hX hn ht hsh hlen hc
    go_enter Tryz.func87,Tryz.ntmps87
    go_wp2_with (first
     | (go_at_call 132;((with_reducible refine(BI _).mono ?_);rintro e wn ⟨rfl,rfl⟩))
     | (go_at_call 133;((refine(VA _ b.out).mono ?_);rintro e wn ⟨rfl,hb⟩;replace b:=zh (yac b.out hb);clear hb))
     | (go_at_call 134;((with_reducible refine(PI _ b.out).mono ?_);rintro e wn ⟨v,rfl,hb⟩;replace b:=zh (yac b.out hb);clear hb)))
    go_ret
    exact⟨by rw[HX.out];rfl,b.out⟩
   ·have HX:=zh (show X=false by rw[<- hX];exact decide_eq_false hc)
    have PI:=fun w' hb=>(PI w' hb).mono fun e w2 h=>(show ∃ v t p,e=.returned (.tuple #[.int .i64 v,.iface t p])/\Below w'.heap.size w' w2 from by
     obtain⟨v,ev,rfl,h3,h4⟩:=h
     rw[if_neg hc] at h3
     obtain⟨t,p,rfl⟩:=h3
     exact⟨v,t,p,rfl,h4⟩)
    clear hs hw he hX hn ht hsh hlen hc
    go_enter Tryz.func87,Tryz.ntmps87
    go_wp2_with (first
     | (go_at_call 132;((with_reducible refine(BI _).mono ?_);rintro e wn ⟨rfl,rfl⟩))
     | (go_at_call 133;((refine(VA _ b.out).mono ?_);rintro e wn ⟨rfl,hb⟩;replace b:=zh (yac b.out hb);clear hb))
     | (go_at_call 134;((with_reducible refine(PI _ b.out).mono ?_);rintro e wn ⟨v,t,p,rfl,hb⟩;replace b:=zh (yac b.out hb);clear hb)))
    go_ret
    exact⟨by rw[HX.out];rfl,b.out⟩
theorem yqo (S:ByteArray) (hs:S.size<=9223372036854775807) (w:World) (hw:Wf w) :
  Calls Tryz.prog 87 #[.int .i64 3,.string S] w fun e w'=>e=.returned (.bool (qfits 3 (bl S)))/\Below w.heap.size w w':=by
 have BI:=fun w'=>yfa 3 w'
 rw[show bitsOf 3=32 by decide] at BI
 have VA:=fun w' (hb:Below w.heap.size w w')=>yb8 S hs w' (hw.up hb)
 have b:=zh (Below.refl w.heap.size w)
 have e1:=emptyS S
 obtain⟨X,hX⟩:∃ X,qfits 3 (bl S)=X:=⟨_,rfl⟩
 rw[hX]
 unfold qfits at hX
 rw[show bitsOf 3=32 by decide] at hX
 by_cases he:bl S=[]
 ·rw[decide_eq_true he] at e1
  have HX:=zh (show X=true by rw[<- hX,he];rfl)
  clear hs hw he hX
  go_enter Tryz.func87,Tryz.ntmps87
  go_wp2_with (first
   | (go_at_call 132;((with_reducible refine(BI _).mono ?_);rintro e wn ⟨rfl,rfl⟩))
   | (go_at_call 133;((refine(VA _ b.out).mono ?_);rintro e wn ⟨rfl,hb⟩;replace b:=zh (yac b.out hb);clear hb)))
  go_ret
  exact⟨by rw[HX.out];rfl,b.out⟩
 ·rw[decide_eq_false he] at e1
  cases hn:num? (bl S) with
  | none=>
   rw[hn] at VA hX
   have HX:=zh (show X=false by rw[<- hX];exact if_pos (.inr ⟨he,rfl⟩))
   clear hs hw he hX hn
   go_enter Tryz.func87,Tryz.ntmps87
   go_wp2_with (first
    | (go_at_call 132;((with_reducible refine(BI _).mono ?_);rintro e wn ⟨rfl,rfl⟩))
    | (go_at_call 133;((refine(VA _ b.out).mono ?_);rintro e wn ⟨rfl,hb⟩;replace b:=zh (yac b.out hb);clear hb)))
   go_ret
   exact⟨by rw[HX.out];rfl,b.out⟩
  | some q=>
   obtain⟨ht,hsh⟩:=ycf.1 hn
   have hlen:=ycx hsh
   rw[ht,yag] at hlen
   have PI:=fun w' (hb:Below w.heap.size w w')=>yha S q ht (by omega) w' (hw.up hb)
   rw[hn] at VA hX
   rw[if_neg (fun h=>h.elim (fun g=>absurd g.1 (by decide)) (fun g=>nomatch g.2)),if_neg (fun h=>h.elim he (fun g=>absurd g (by decide)))] at hX
   by_cases hc:q.den=1/\-((2 ^ (32 - 1):Nat):Int)<=q.num/\q.num<((2 ^ (32 - 1):Nat):Int)
   ·have HX:=zh (show X=true by rw[<- hX];exact decide_eq_true hc)
    have PI:=fun w' hb=>(PI w' hb).mono fun e w2 h=>(show ∃ v,e=.returned (.tuple #[.int .i64 v,.nilIface])/\Below w'.heap.size w' w2 from by
     obtain⟨v,ev,rfl,h3,h4⟩:=h
     rw[if_pos hc] at h3
     subst h3
     exact⟨v,rfl,h4⟩)
    clear hs hw he hX hn ht hsh hlen hc
    go_enter Tryz.func87,Tryz.ntmps87
    go_wp2_with (first
     | (go_at_call 132;((with_reducible refine(BI _).mono ?_);rintro e wn ⟨rfl,rfl⟩))
     | (go_at_call 133;((refine(VA _ b.out).mono ?_);rintro e wn ⟨rfl,hb⟩;replace b:=zh (yac b.out hb);clear hb))
     | (go_at_call 134;((with_reducible refine(PI _ b.out).mono ?_);rintro e wn ⟨v,rfl,hb⟩;replace b:=zh (yac b.out hb);clear hb)))
    go_ret
    exact⟨by rw[HX.out];rfl,b.out⟩
   ·have HX:=zh (show X=false by rw[<- hX];exact decide_eq_false hc)
    have PI:=fun w' hb=>(PI w' hb).mono fun e w2 h=>(show ∃ v t p,e=.returned (.tuple #[.int .i64 v,.iface t p])/\Below w'.heap.size w' w2 from by
     obtain⟨v,ev,rfl,h3,h4⟩:=h
     rw[if_neg hc] at h3
     obtain⟨t,p,rfl⟩:=h3
     exact⟨v,t,p,rfl,h4⟩)
    clear hs hw he hX hn ht hsh hlen hc
    go_enter Tryz.func87,Tryz.ntmps87
    go_wp2_with (first
     | (go_at_call 132;((with_reducible refine(BI _).mono ?_);rintro e wn ⟨rfl,rfl⟩))
     | (go_at_call 133;((refine(VA _ b.out).mono ?_);rintro e wn ⟨rfl,hb⟩;replace b:=zh (yac b.out hb);clear hb))
     | (go_at_call 134;((with_reducible refine(PI _ b.out).mono ?_);rintro e wn ⟨v,t,p,rfl,hb⟩;replace b:=zh (yac b.out hb);clear hb)))
    go_ret
    exact⟨by rw[HX.out];rfl,b.out⟩
theorem yq5 (S:ByteArray) (hs:S.size<=9223372036854775807) (w:World) (hw:Wf w) :
  Calls Tryz.prog 87 #[.int .i64 4,.string S] w fun e w'=>e=.returned (.bool (qfits 4 (bl S)))/\Below w.heap.size w w':=by
 have BI:=fun w'=>yfa 4 w'
 rw[show bitsOf 4=64 by decide] at BI
 have VA:=fun w' (hb:Below w.heap.size w w')=>yb8 S hs w' (hw.up hb)
 have b:=zh (Below.refl w.heap.size w)
 have e1:=emptyS S
 obtain⟨X,hX⟩:∃ X,qfits 4 (bl S)=X:=⟨_,rfl⟩
 rw[hX]
 unfold qfits at hX
 rw[show bitsOf 4=64 by decide] at hX
 by_cases he:bl S=[]
 ·rw[decide_eq_true he] at e1
  have HX:=zh (show X=true by rw[<- hX,he];rfl)
  clear hs hw he hX
  go_enter Tryz.func87,Tryz.ntmps87
  go_wp2_with (first
   | (go_at_call 132;((with_reducible refine(BI _).mono ?_);rintro e wn ⟨rfl,rfl⟩))
   | (go_at_call 133;((refine(VA _ b.out).mono ?_);rintro e wn ⟨rfl,hb⟩;replace b:=zh (yac b.out hb);clear hb)))
  go_ret
  exact⟨by rw[HX.out];rfl,b.out⟩
 ·rw[decide_eq_false he] at e1
  cases hn:num? (bl S) with
  | none=>
   rw[hn] at VA hX
   have HX:=zh (show X=false by rw[<- hX];exact if_pos (.inr ⟨he,rfl⟩))
   clear hs hw he hX hn
   go_enter Tryz.func87,Tryz.ntmps87
   go_wp2_with (first
    | (go_at_call 132;((with_reducible refine(BI _).mono ?_);rintro e wn ⟨rfl,rfl⟩))
    | (go_at_call 133;((refine(VA _ b.out).mono ?_);rintro e wn ⟨rfl,hb⟩;replace b:=zh (yac b.out hb);clear hb)))
   go_ret
   exact⟨by rw[HX.out];rfl,b.out⟩
  | some q=>
   obtain⟨ht,hsh⟩:=ycf.1 hn
   have hlen:=ycx hsh
   rw[ht,yag] at hlen
   have PI:=fun w' (hb:Below w.heap.size w w')=>yg6 S q ht (by omega) w' (hw.up hb)
   rw[hn] at VA hX
   rw[if_neg (fun h=>h.elim (fun g=>absurd g.1 (by decide)) (fun g=>nomatch g.2)),if_neg (fun h=>h.elim he (fun g=>absurd g (by decide)))] at hX
   by_cases hc:q.den=1/\-((2 ^ (64 - 1):Nat):Int)<=q.num/\q.num<((2 ^ (64 - 1):Nat):Int)
   ·have HX:=zh (show X=true by rw[<- hX];exact decide_eq_true hc)
    have PI:=fun w' hb=>(PI w' hb).mono fun e w2 h=>(show ∃ v,e=.returned (.tuple #[.int .i64 v,.nilIface])/\Below w'.heap.size w' w2 from by
     obtain⟨v,ev,rfl,h3,h4⟩:=h
     rw[if_pos hc] at h3
     subst h3
     exact⟨v,rfl,h4⟩)
    clear hs hw he hX hn ht hsh hlen hc
    go_enter Tryz.func87,Tryz.ntmps87
    go_wp2_with (first
     | (go_at_call 132;((with_reducible refine(BI _).mono ?_);rintro e wn ⟨rfl,rfl⟩))
     | (go_at_call 133;((refine(VA _ b.out).mono ?_);rintro e wn ⟨rfl,hb⟩;replace b:=zh (yac b.out hb);clear hb))
     | (go_at_call 134;((with_reducible refine(PI _ b.out).mono ?_);rintro e wn ⟨v,rfl,hb⟩;replace b:=zh (yac b.out hb);clear hb)))
    go_ret
    exact⟨by rw[HX.out];rfl,b.out⟩
   ·have HX:=zh (show X=false by rw[<- hX];exact decide_eq_false hc)
    have PI:=fun w' hb=>(PI w' hb).mono fun e w2 h=>(show ∃ v t p,e=.returned (.tuple #[.int .i64 v,.iface t p])/\Below w'.heap.size w' w2 from by
     obtain⟨v,ev,rfl,h3,h4⟩:=h
     rw[if_neg hc] at h3
     obtain⟨t,p,rfl⟩:=h3
     exact⟨v,t,p,rfl,h4⟩)
    clear hs hw he hX hn ht hsh hlen hc
    go_enter Tryz.func87,Tryz.ntmps87
    go_wp2_with (first
     | (go_at_call 132;((with_reducible refine(BI _).mono ?_);rintro e wn ⟨rfl,rfl⟩))
     | (go_at_call 133;((refine(VA _ b.out).mono ?_);rintro e wn ⟨rfl,hb⟩;replace b:=zh (yac b.out hb);clear hb))
     | (go_at_call 134;((with_reducible refine(PI _ b.out).mono ?_);rintro e wn ⟨v,t,p,rfl,hb⟩;replace b:=zh (yac b.out hb);clear hb)))
    go_ret
    exact⟨by rw[HX.out];rfl,b.out⟩
theorem yp3 (k:Int) (S:ByteArray) (hs:S.size<=9223372036854775807) (w:World) (hw:Wf w) :
  Calls Tryz.prog 87 #[.int .i64 k,.string S] w fun e w'=>e=.returned (.bool (qfits k (bl S)))/\Below w.heap.size w w':=by
 by_cases h1:k=1
 ·subst h1;exact ytg S hs w hw
 ·by_cases h2:k=2
  ·subst h2;exact yrn S hs w hw
  ·by_cases h3:k=3
   ·subst h3;exact yqo S hs w hw
   ·by_cases h4:k=4
    ·subst h4;exact yq5 S hs w hw
    ·exact ym5 k S hs w hw (by unfold bitsOf;rw[if_neg h1,if_neg h2,if_neg h3,if_neg h4])
end Go.Proofs.YtajmjllhdcdkmaaGreatDoor
