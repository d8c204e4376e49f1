import Derived.Test.YtajmjllhdcdkmaaGreatDoorZ
import Derived.Test.YtajmjllhdcdkmaaGreatDoorG14
import Derived.Test.YtajmjllhdcdkmaaGreatDoorG12
set_option maxRecDepth 100000
set_option maxHeartbeats 3200000
namespace Go.Proofs.YtajmjllhdcdkmaaGreatDoor
open Go.RowKit Dg Q Num Str
theorem yd1 {v:Value} {xs:List ByteArray} {w:World} {B:Nat} (x:ByteArray) (hV:VL kStr 1 w B v xs):Calls Tryz.prog 81 #[v,.string x] w fun e w'=>e=.returned (.bool (decide (bl x ∈ xs.map bl)))/\w=w':=by
 obtain⟨A,n,c,rfl,h1,h2,h3,h4,h5⟩:=hV
 rcases Nat.eq_zero_or_pos n with rfl|hn
 ·have:xs=[]:=List.length_eq_zero_iff.1 h1
  subst this
  refine(Tryz.slices_Contains_string_empty A c x w).mono ?_
  rintro e w' ⟨rfl,rfl⟩
  exact⟨by simp,rfl⟩
 ·obtain⟨b,off,rfl,hb,hx⟩:=h5 hn
  refine(Tryz.slices_Contains_string b off n c xs x w (by omega) h3 (fun j hj=>?_)).mono ?_
  ·obtain⟨vs,g1,g2,g3⟩:=hx j xs[j] (List.getElem?_eq_getElem hj)
   obtain⟨rfl,_⟩:=g3
   have:=g2 0 _ rfl
   rw[Nat.mul_one,Nat.add_zero] at this
   rw[this,List.getD_eq_getElem?_getD,List.getElem?_eq_getElem hj];rfl
  ·rintro e w' ⟨rfl,rfl⟩
   rw[List.take_of_length_le (by omega)]
   refine⟨?_,rfl⟩
   rw[show Lib.containsS xs x=decide (bl x ∈ xs.map bl) by rw[Bool.eq_iff_iff,Lib.containsS_iff,decide_eq_true_iff,List.mem_map];exact⟨fun h=>⟨x,h,rfl⟩,fun ⟨y,h,e⟩=>ye1 e▸h⟩]
theorem yjh {v:Value} {xs:List Int} {w:World} {B:Nat} (x:Int) (hV:VL kInt 1 w B v xs):Calls Tryz.prog 46 #[v,.int .i64 x] w fun e w'=>e=.returned (.bool (decide (x ∈ xs)))/\w=w':=by
 obtain⟨A,n,c,rfl,h1,h2,h3,h4,h5⟩:=hV
 rcases Nat.eq_zero_or_pos n with rfl|hn
 ·have:xs=[]:=List.length_eq_zero_iff.1 h1
  subst this
  refine(Tryz.slices_Contains_int_empty A c x w).mono ?_
  rintro e w' ⟨rfl,rfl⟩
  exact⟨by simp,rfl⟩
 ·obtain⟨b,off,rfl,hb,hx⟩:=h5 hn
  refine(Tryz.slices_Contains_int b off n c xs x w (by omega) h3 (fun j hj=>?_)).mono ?_
  ·obtain⟨vs,g1,g2,g3⟩:=hx j xs[j] (List.getElem?_eq_getElem hj)
   obtain⟨rfl,_⟩:=g3
   have:=g2 0 _ rfl
   rw[Nat.mul_one,Nat.add_zero] at this
   rw[this,List.getD_eq_getElem?_getD,List.getElem?_eq_getElem hj];rfl
  ·rintro e w' ⟨rfl,rfl⟩
   rw[List.take_of_length_le (by omega)]
   refine⟨?_,rfl⟩
   rw[show xs.contains x=decide (x ∈ xs) by rw[Bool.eq_iff_iff,List.contains_iff_mem,decide_eq_true_iff]]
theorem ymw {m x:Int} {l:List Int} {k:Nat} (hk:l[k]?=some x):cellsFrom m (l.drop k)=if 4096<IntKind.i64.wrap (m*x) then IntKind.i64.wrap (m*x) else cellsFrom (IntKind.i64.wrap (m*x)) (l.drop (k+1)):=by
 have hlt:=(List.getElem?_eq_some_iff.1 hk).1
 have h1:=(List.getElem?_eq_some_iff.1 hk).2
 rw[List.drop_eq_getElem_cons hlt,h1]
 rfl
theorem ytj (n:Int):inI (IntKind.i64.wrap n):=by
 unfold inI
 rw[IntKind.wrap_i64]
 omega
theorem yct {v:Value} {xs:List Int} {w:World} {B:Nat} (hV:VL kInt 1 w B v xs):Calls Tryz.prog 16 #[v] w fun e w'=>e=.returned (.int .i64 (cellsB xs))/\w=w':=by
 have CI:=yjh 0 hV
 obtain⟨A,c,rfl,hc1,hc2⟩:=hV.val
 obtain⟨n,hn⟩:∃ n,xs.length=n:=⟨_,rfl⟩
 rw[hn] at hV hc1 hc2 CI ⊢
 have nb:(n:Int)<=9223372036854775807:=by omega
 by_cases h0:(0:Int) ∈ xs
 ·rw[decide_eq_true h0] at CI
  have hx:cellsB xs=0:=by unfold cellsB;rw[if_pos (List.contains_iff_mem.2 h0)]
  rw[hx]
  clear hx h0 hV hn
  go_enter Tryz.func16,Tryz.ntmps16
  go_wp2_with (go_at_call 46;(with_reducible refine CI.mono ?_);rintro e w1 ⟨rfl,rfl⟩)
  go_ret
  exact⟨rfl,rfl⟩
 ·rw[decide_eq_false h0] at CI
  have hx:cellsB xs=cellsFrom 1 xs:=by unfold cellsB;rw[if_neg (fun h=>h0 (List.contains_iff_mem.1 h))]
  obtain⟨R,hR⟩:∃ R,cellsFrom 1 xs=R:=⟨_,rfl⟩
  rw[hx,hR]
  have HR:=zh hR
  have HV:=zh hV
  have HN:=zh hn
  clear hx h0 hV hn hR hc1 hc2
  go_enter Tryz.func16,Tryz.ntmps16
  go_wp2_with (go_at_call 46;(with_reducible refine CI.mono ?_);rintro e w1 ⟨rfl,rfl⟩)
  clear CI
  go_loopw [3,10] (fun v i wr=>∃ k:Nat,k<=n/\i=.int .i64 (k:Int)/\(∃ m:Int,v=.int .i64 m/\Hid (cellsFrom m (xs.drop k)=R)/\-9223372036854775808<=m/\m<=9223372036854775807)/\w=wr) (fun _ i _=>(n - intOf i).toNat)
  case atStart=>exact⟨0,Nat.zero_le _,rfl,⟨1,rfl,HR,by decide,by decide⟩,rfl⟩
  case round=>
   obtain⟨k,hk,rfl,⟨m,rfl,hm,hm1,hm2⟩,rfl⟩:=hrel
   by_cases hkn:k=n
   ·have hx:m=R:=by
     have:=hm.out
     rw[List.drop_of_length_le (by have:=HN.out;omega)] at this
     exact this
    subst hkn
    subst hx
    clear hm HR HV HN
    go_wp2
    go_ret
    exact⟨rfl,rfl⟩
   ·have hlt:k<n:=by omega
    have hi:(k:Int)<(n:Int):=by omega
    obtain⟨x,hx⟩:∃ x,xs[k]?=some x:=⟨_,List.getElem?_eq_getElem (by have:=HN.out;omega)⟩
    obtain⟨b0,off,vs,rfl,hb0,_,hr,hp⟩:=HV.out.get hx
    obtain⟨rfl,hxs⟩:=hp
    have c0:w.cell? ⟨b0,off+k,none⟩=some (.int .i64 x):=by
     have:=hr 0 _ rfl
     rwa [Nat.mul_one,Nat.add_zero] at this
    obtain⟨p,hp⟩:∃ p,IntKind.i64.wrap (m*x)=p:=⟨_,rfl⟩
    have hpi:=ytj (m*x)
    have hs:=hm.out
    rw[ymw hx] at hs
    rw[hp] at hs hpi
    obtain⟨hp1,hp2⟩:=hpi
    by_cases h4:4096<p
    ·rw[if_pos h4] at hs
     subst hs
     clear hm HR HV HN hx hr
     go_wp2
     go_ret
     exact⟨rfl,rfl⟩
    ·rw[if_neg h4] at hs
     have HS:=zh hs
     clear hs hm HR HV hx hr
     go_wp2
     go_roundw
     case rel=>exact⟨k+1,by omega,by go_num,⟨p,rfl,HS,hp1,hp2⟩,by first|rfl|trivial⟩
     case measure=>simp only[intOf];omega
end Go.Proofs.YtajmjllhdcdkmaaGreatDoor
