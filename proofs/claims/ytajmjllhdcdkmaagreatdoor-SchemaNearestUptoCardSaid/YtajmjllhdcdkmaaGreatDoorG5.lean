import Derived.Test.YtajmjllhdcdkmaaGreatDoorG2
import Derived.Test.YtajmjllhdcdkmaaGreatDoorG1
import Derived.Lib.ParseIntB
namespace Go.Proofs.YtajmjllhdcdkmaaGreatDoor.Num
open Go.Proofs.YtajmjllhdcdkmaaGreatDoor.Str Go.Proofs.YtajmjllhdcdkmaaGreatDoor.Dg Go.Proofs.YtajmjllhdcdkmaaGreatDoor.Q Go.Lib
theorem yob:∀ (l:List UInt8) (a:Nat),a<=l.foldl (fun a c=>10*a+(c.toNat - 48)) a
 | [],_=>Nat.le_refl _
 | c::r,a=>by rw[List.foldl_cons];exact Nat.le_trans (by omega) (yob r _)
theorem yiv:∀ {l:List UInt8} {M acc u:Nat},parseUintM M acc l=.ok u->allD l=true/\u=l.foldl (fun a c=>10*a+(c.toNat - 48)) acc/\(l≠[]->u<=M)
 | [],M,acc,u,h=>by
  unfold parseUintM at h
  injection h with h
  exact⟨rfl,h.symm,fun h=>absurd rfl h⟩
 | c::r,M,acc,u,h=>by
  unfold parseUintM at h
  split at h
  ·rename_i hd
   split at h
   ·cases h
   ·split at h
    ·cases h
    ·rename_i hM
     obtain⟨h1,h2,h3⟩:=yiv h
     have e:acc*10+(c.toNat - 48)=10*acc+(c.toNat - 48):=by omega
     refine⟨?_,?_,fun _=>?_⟩
     ·unfold allD at h1 ⊢;rw[List.all_cons,h1,Bool.and_true];exact decide_eq_true hd
     ·rw[List.foldl_cons,<- e];exact h2
     ·by_cases hr:r=[]
      ·subst hr;rw[h2,List.foldl_nil];omega
      ·exact h3 hr
  ·cases h
theorem yjp:∀ {l:List UInt8} {M acc:Nat},allD l=true->M<=18446744073709551615->l.foldl (fun a c=>10*a+(c.toNat - 48)) acc<=M->parseUintM M acc l=.ok (l.foldl (fun a c=>10*a+(c.toNat - 48)) acc)
 | [],M,acc,_,_,_=>rfl
 | c::r,M,acc,h,hM,hv=>by
  have h1:isD c=true/\allD r=true:=by simpa[allD] using h
  rw[List.foldl_cons] at hv ⊢
  have e:acc*10+(c.toNat - 48)=10*acc+(c.toNat - 48):=by omega
  have hg:=yob r (10*acc+(c.toNat - 48))
  unfold parseUintM
  rw[if_pos (of_decide_eq_true h1.1),if_neg (by omega),if_neg (by omega),e]
  exact yjp h1.2 hM hv
theorem yqx {B:Nat} (hB:B<=64) {l:List UInt8} {u:Nat}:parseUintB B l=.ok u ↔ l≠[]/\allD l=true/\u=val l/\val l<=2 ^ B - 1:=by
 have h64:2 ^ B - 1<=18446744073709551615:=by
  have:=Nat.pow_le_pow_right (n:=2) (by decide) hB
  have e:(2:Nat) ^ 64=18446744073709551616:=by decide
  omega
 unfold parseUintB
 by_cases h:l=[]
 ·rw[if_pos h];exact⟨fun g=>(by cases g),fun g=>absurd h g.1⟩
 ·rw[if_neg h]
  constructor
  ·intro g
   obtain⟨h1,h2,h3⟩:=yiv g
   have h4:u=val l:=h2
   exact⟨h,h1,h4,by rw[<- h4];exact h3 h⟩
  ·rintro⟨_,h1,rfl,h3⟩
   exact yjp h1 h64 h3
theorem ync (B:Nat) (r:List UInt8) (v:Int):parseIntB B (45::r)=.ok v ↔ ∃ u,parseUintB B r=.ok u/\u<=2 ^ (B - 1)/\v = -(u:Int):=by
 have e1:(45:UInt8).toNat=45:=rfl
 unfold parseIntB
 simp only[e1]
 cases h:parseUintB B r
 case ok u=>
  simp[h]
  constructor
  ·intro g
   split at g
   ·cases g
   ·rename_i hu
    injection g with g
    exact⟨by omega,g.symm⟩
  ·rintro⟨h1,rfl⟩
   rw[if_neg (by omega)]
 all_goals simp[h]
theorem ym3 (B:Nat) (c:UInt8) (r:List UInt8) (h43:c.toNat≠43) (h45:c.toNat≠45) (v:Int):parseIntB B (c::r)=.ok v ↔ ∃ u,parseUintB B (c::r)=.ok u/\u<2 ^ (B - 1)/\v=(u:Int):=by
 unfold parseIntB
 simp only[h43,h45]
 cases h:parseUintB B (c::r)
 case ok u=>
  simp[h]
  constructor
  ·intro g
   split at g
   ·cases g
   ·rename_i hu
    injection g with g
    exact⟨by omega,g.symm⟩
  ·rintro⟨h1,rfl⟩
   rw[if_neg (by omega)]
 all_goals simp[h]
theorem yf2 {B:Nat} (h0:1<=B) (hB:B<=64) (q:Rat) (v:Int):parseIntB B (txt q)=.ok v ↔ q.den=1/\v=q.num/\-((2 ^ (B - 1):Nat):Int)<=v/\v<((2 ^ (B - 1):Nat):Int):=by
 have hnum:=yen q
 have hp:2 ^ B=2*2 ^ (B - 1):=by obtain⟨b,rfl⟩:∃ b,B=b+1:=⟨B - 1,by omega⟩;rw[Nat.pow_succ,Nat.add_sub_cancel,Nat.mul_comm]
 have hb:=ye6 q
 have hneg:=ygo q
 have hu:∀ u,parseUintB B (body (txt q))=.ok u ↔ q.den=1/\u=top q/\top q<=2 ^ B - 1:=by
  intro u
  rw[yqx hB,hb]
  by_cases h1:q.den=1
  ·rw[if_pos h1,List.append_nil,ybz]
   exact⟨fun g=>⟨h1,g.2.2⟩,fun g=>⟨yhl _,ybn _,g.2⟩⟩
  ·rw[if_neg h1]
   refine⟨fun g=>?_,fun g=>absurd g.1 h1⟩
   have:=yc3 g.2.1 (c:=47) (by simp)
   cases this
 have hpos:1<=2 ^ (B - 1):=Nat.one_le_two_pow
 rw[hp] at hu
 cases hn:ngt q
 ·have e:txt q=body (txt q):=by
   have:body (txt q)=txt q:=by unfold body;rw[hneg,hn];rfl
   exact this.symm
  obtain⟨c,r,ec,hc⟩:∃ c r,body (txt q)=c::r/\isD c=true:=by
   rw[hb]
   cases hd:decDigits (top q) with
   | nil=>exact absurd hd (yhl _)
   | cons x l=>exact⟨x,_,rfl,yem (top q) (by rw[hd];rfl)⟩
  have hc':=of_decide_eq_true hc
  rw[hn] at hnum
  have hnum':q.num=(top q:Int):=hnum
  rw[e,ec,ym3 B c r (by omega) (by omega),<- ec]
  constructor
  ·rintro⟨u,g1,g2,rfl⟩
   obtain⟨k1,k2,_⟩:=(hu u).1 g1
   exact⟨k1,by rw[hnum',k2],by omega,by omega⟩
  ·rintro⟨g1,rfl,g3,g4⟩
   rw[hnum'] at g3 g4
   exact⟨top q,(hu _).2 ⟨g1,rfl,by omega⟩,by omega,hnum'⟩
 ·have e:txt q=45::body (txt q):=by
   have:=yid (txt q)
   rw[hneg,hn] at this
   exact this
  rw[hn] at hnum
  have hnum':q.num = -(top q:Int):=hnum
  have ht:=yk9 hn
  rw[e,ync]
  constructor
  ·rintro⟨u,g1,g2,rfl⟩
   obtain⟨k1,k2,_⟩:=(hu u).1 g1
   exact⟨k1,by rw[hnum',k2],by omega,by omega⟩
  ·rintro⟨g1,rfl,g3,g4⟩
   rw[hnum'] at g3 g4
   exact⟨top q,(hu _).2 ⟨g1,rfl,by omega⟩,by omega,hnum'⟩
end Go.Proofs.YtajmjllhdcdkmaaGreatDoor.Num
namespace Go.Proofs.YtajmjllhdcdkmaaGreatDoor
open Go.Proofs.YtajmjllhdcdkmaaGreatDoor.Dg Go.Proofs.YtajmjllhdcdkmaaGreatDoor.Q Go.Proofs.YtajmjllhdcdkmaaGreatDoor.Num
def bitsOf (k:Int):Nat:=if k=1 then 8 else if k=2 then 16 else if k=3 then 32 else if k=4 then 64 else 0
def qfits (k:Int) (l:List UInt8):Bool:=
 if (bitsOf k=0/\k≠5)\/(l≠[]/\num? l=none) then false
 else if l=[]\/bitsOf k=0 then true
 else match num? l with
  | some q=>decide (q.den=1/\-((2 ^ (bitsOf k - 1):Nat):Int)<=q.num/\q.num<((2 ^ (bitsOf k - 1):Nat):Int))
  | none=>false
end Go.Proofs.YtajmjllhdcdkmaaGreatDoor
