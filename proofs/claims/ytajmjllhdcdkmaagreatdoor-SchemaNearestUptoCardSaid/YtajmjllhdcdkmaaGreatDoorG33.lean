import Derived.Test.YtajmjllhdcdkmaaGreatDoorG28
import Derived.Test.YtajmjllhdcdkmaaGreatDoorG32
namespace Go.Proofs.YtajmjllhdcdkmaaGreatDoor
open Go.RowKit Dg Q Num Str
theorem ymg:∀ l:List UInt8,(47:UInt8) ∉ l->l.takeWhile (fun c=>c != 47)=l
 | [],_=>rfl
 | a::l,h=>by
  rw[List.takeWhile_cons,if_pos (by rw[bne_iff_ne];exact fun e=>h (e▸List.mem_cons_self)),ymg l fun hx=>h (List.mem_cons_of_mem _ hx)]
theorem yk0 {p:List UInt8} (h:1<=slashL p):∃ b,p=p.take (slashL p)++47::b:=by
 have hm:(47:UInt8) ∈ p:=by
  apply Classical.byContradiction
  intro hn
  have h2:p.reverse.takeWhile (fun c=>c != 47)=p.reverse:=by
   exact ymg _ fun hx=>hn (List.mem_reverse.1 hx)
  unfold slashL at h
  rw[h2,List.length_reverse] at h
  omega
 obtain⟨a,b,hab,hb⟩:∃ a b,p=a++47::b/\(47:UInt8) ∉ b:=by
  obtain⟨x,y,hx,hy⟩:=List.eq_append_cons_of_mem (List.mem_reverse.2 hm)
  refine⟨y.reverse,x.reverse,?_,fun h=>hy (List.mem_reverse.1 h)⟩
  have:=congrArg List.reverse hx
  rw[List.reverse_reverse,List.reverse_append,List.reverse_cons,List.append_assoc] at this
  exact this
 refine⟨b,?_⟩
 rw[hab,yj6 hb,List.take_append_of_le_length (Nat.le_refl _),List.take_length]
theorem yj1 {p up top:List UInt8} (h:parentB p=some up) (hb:belowB up top=true):belowB p top=true:=by
 unfold parentB at h
 by_cases hc:p=[47]\/pathB p=false
 ·rw[if_pos hc] at h;cases h
 rw[if_neg hc] at h
 injection h with h
 have hh:p.head?=some 47:=by
  have h1:pathB p=true:=by cases hp:pathB p with
   | true=>rfl
   | false=>exact absurd (.inr hp) hc
  unfold pathB at h1
  rw[Bool.or_eq_true,Bool.and_eq_true] at h1
  rcases h1 with h1|h1
  ·exact absurd (.inl (eq_of_beq h1)) hc
  ·exact eq_of_beq h1.1
 unfold belowB at hb ⊢
 rw[Bool.or_eq_true,Bool.or_eq_true] at hb ⊢
 by_cases hj:1<=slashL p
 ·obtain⟨b,hb2⟩:=yk0 hj
  rw[show max (slashL p) 1=slashL p by omega] at h
  rw[h] at hb2
  rcases hb with hb|hb|hb
  ·refine .inr (.inr ?_)
   rw[<- eq_of_beq hb,List.isPrefixOf_iff_prefix]
   exact⟨b,by rw[List.append_assoc];exact hb2.symm⟩
  ·exact .inr (.inl hb)
  ·refine .inr (.inr ?_)
   rw[List.isPrefixOf_iff_prefix] at hb ⊢
   exact hb.trans ⟨_,hb2.symm⟩
 ·have h1:up=[47]:=by
   rw[show max (slashL p) 1=1 by omega] at h
   cases p with
   | nil=>cases hh
   | cons a l=>injection hh with hh;rw[<- h,hh];rfl
  subst h1
  rcases hb with hb|hb|hb
  ·exact .inr (.inl (by rw[<- eq_of_beq hb];rfl))
  ·exact .inr (.inl hb)
  ·refine .inr (.inr ?_)
   rw[List.isPrefixOf_iff_prefix] at hb ⊢
   refine hb.trans ?_
   cases p with
   | nil=>cases hh
   | cons a l=>injection hh with hh;rw[hh];exact⟨l,rfl⟩
theorem ylr {s:List GroupD} {n:List UInt8}:∀ {k:Nat} {p:List UInt8} {g d:Nat},resolveB s n k p=some (g,d)->∃ x,s[g]?=some x/\groupIx s (bl x.path)=some g/\dimIx x.dims n=some d/\belowB p (bl x.path)=true/\(bl x.path=p\/∃ up,parentB p=some up/\(bl x.path).length<=up.length/\dimIx ((s[(groupIx s p).getD 0]?.map (·.dims)).getD []) n=none/\∃ k',k=k'+1/\resolveB s n k' up=some (g,d))
 | 0,_,_,_,h=>by cases h
 | k+1,p,g,d,h=>by
  cases hg:groupIx s p with
  | none=>rw[ybv hg] at h;cases h
  | some g'=>
   obtain⟨x',hx',hp'⟩:=yde hg
   cases hd:dimIx ((s[g']?.map (·.dims)).getD []) n with
   | some d'=>
    rw[ybw hg hd] at h
    injection h with h
    injection h with h1 h2
    subst h1 h2
    rw[hx'] at hd
    exact⟨x',hx',by rw[hp'];exact hg,hd,by unfold belowB;rw[hp',beq_self_eq_true,Bool.true_or],.inl hp'⟩
   | none=>
    rw[ycs hg hd] at h
    cases hu:parentB p with
    | none=>rw[hu] at h;cases h
    | some up=>
     rw[hu] at h
     obtain⟨x,h1,h2,h3,h4,h5⟩:=ylr h
     refine⟨x,h1,h2,h3,yj1 hu h4,.inr ⟨up,rfl,?_,hd,k,rfl,h⟩⟩
     rcases h5 with h5|⟨up2,h6,h7,_⟩
     ·rw[h5];exact Nat.le_refl _
     ·exact Nat.le_trans h7 (Nat.le_of_lt (ycb h6))
theorem res_up {s:List GroupD} {n p:List UInt8} {g d:Nat} {x:GroupD} (h:resolveB s n (p.length+1) p=some (g,d)) (hx:s[g]?=some x) (hne:bl x.path≠p):∃ up,parentB p=some up/\resolveB s n (up.length+1) up=some (g,d):=by
 obtain⟨x',h1,_,_,_,h5⟩:=ylr h
 rw[hx] at h1
 injection h1 with h1
 subst h1
 rcases h5 with h5|⟨up,h6,_,_,k',hk,h7⟩
 ·exact absurd h5 hne
 ·refine⟨up,h6,?_⟩
  have hl:=ycb h6
  rw[<- h7]
  exact ydk (Nat.lt_succ_self _) (by omega)
theorem ys2 {s:List GroupD} {n p:List UInt8} {g d:Nat} {x:GroupD} {y:DimD} (hv:validB s=true) (h:resolveB s n (p.length+1) p=some (g,d)) (hx:s[g]?=some x) (he:bl x.path=p) (hy:bl y.name=n):addDimR s p y=(32,s):=by
 obtain⟨x',h1,h2,h3,_,_⟩:=ylr h
 rw[hx] at h1
 injection h1 with h1
 subst h1
 rw[he] at h2
 have hnm:nameB n=true:=by
  have hl:=yga hv x (List.mem_of_getElem? hx)
  unfold listsB at hl
  rw[Bool.and_eq_true,Bool.and_eq_true,Bool.and_eq_true,Bool.and_eq_true] at hl
  have ha:=hl.2.2.1
  unfold ascB at ha
  rw[Bool.and_eq_true] at ha
  unfold dimIx at h3
  obtain⟨hd1,hd2,_⟩:=List.findIdx?_eq_some_iff_getElem.1 h3
  rw[<- eq_of_beq hd2]
  exact List.all_eq_true.1 ha.1 _ (List.mem_map.2 ⟨_,List.getElem_mem hd1,rfl⟩)
 unfold addDimR
 rw[hy,hnm,if_neg (by decide)]
 unfold groupIx at h2
 rw[h2]
 simp only[hx]
 unfold dimIx at h3
 rw[h3,Option.isSome_some,if_pos rfl]
theorem ykv {s:List GroupD} {g:Nat} {x x':GroupD} (hx:s[g]?=some x) (he:x'.path=x.path) (p:List UInt8):groupIx (s.set g x') p=groupIx s p:=by
 unfold groupIx
 have e1:∀ l:List GroupD,l.findIdx? (fun y=>bl y.path==p)=(l.map (bl ·.path)).findIdx? (·==p):=fun l=>by rw[List.findIdx?_map];rfl
 rw[e1,e1,List.map_set,he]
 congr 1
 apply List.ext_getElem?
 intro i
 rw[List.getElem?_set]
 split
 ·rename_i hgi
  subst hgi
  have hlt:=(List.getElem?_eq_some_iff.1 hx).1
  rw[if_pos (by rw[List.length_map];exact hlt),List.getElem?_map,hx]
  rfl
 ·rfl
theorem yqc {s rs:List GroupD} {p:List UInt8} {y:DimD} (h:addDimR s p y=(0,rs)) (hv:validB rs=true):usersR rs p (bl y.name)=(0,[]):=by
 unfold addDimR at h
 cases hn:nameB (bl y.name)
 ·rw[hn,if_pos rfl] at h
  injection h with h _
  exact absurd h (by decide)
 rw[hn,if_neg (by decide)] at h
 cases hg:s.findIdx? (fun x=>bl x.path==p) with
 | none=>
  rw[hg] at h
  injection h with h _
  exact absurd h (by decide)
 | some g=>
  rw[hg] at h
  obtain⟨x,hx,hxp⟩:=yde (s:=s) (p:=p) hg
  simp only[hx] at h
  cases hd:(x.dims.findIdx? fun z=>bl z.name==bl y.name) with
  | some q=>
   rw[hd,Option.isSome_some,if_pos rfl] at h
   injection h with h _
   exact absurd h (by decide)
  | none=>
   rw[hd,if_neg (by decide)] at h
   cases hm:mentionsB s p (bl y.name)
   ·rw[hm,if_neg (by decide)] at h
    injection h with _ h
    have hlt:=(List.getElem?_eq_some_iff.1 hx).1
    have hsg:rs[g]?=some ⟨x.path,insB dimK y x.dims,x.vars,x.attrs⟩:=by rw[<- h,List.getElem?_set_self hlt]
    have hix:groupIx rs p=some g:=by rw[<- h,ykv hx (show (⟨x.path,insB dimK y x.dims,x.vars,x.attrs⟩:GroupD).path=x.path from rfl)];exact hg
    have hdi:∃ q,dimIx (insB dimK y x.dims) (bl y.name)=some q:=by
     unfold dimIx
     cases hf:(insB dimK y x.dims).findIdx? (fun d=>bl d.name==bl y.name) with
     | some q=>exact⟨q,rfl⟩
     | none=>
      rw[List.findIdx?_eq_none_iff] at hf
      have:=hf y (yrd.2 (.inl rfl))
      rw[beq_self_eq_true] at this
      cases this
    obtain⟨q,hq⟩:=hdi
    unfold usersR
    rw[hv,if_neg (by decide),hix]
    unfold dimsAt
    simp only[hsg,Option.map_some,Option.getD_some,hq]
    congr 1
    unfold usersB
    rw[List.flatMap_eq_nil_iff]
    intro k hk
    unfold usersOf
    rw[List.map_eq_nil_iff,List.filter_eq_nil_iff]
    intro v hv' hu
    unfold useB at hu
    rw[Bool.and_eq_true,beq_iff_eq] at hu
    cases hr:resolveB rs (bl y.name) (k.path.size+1) (bl k.path) with
    | none=>rw[hr] at hu;cases hu.1
    | some z=>
     obtain⟨g',d'⟩:=z
     rw[hr] at hu
     have hgg:g'=g:=by have:=hu.1;simp at this;exact this
     subst hgg
     obtain⟨x2,r1,_,_,r4,_⟩:=ylr hr
     rw[hsg] at r1
     injection r1 with r1
     rw[<- r1] at r4
     have hbl:belowB (bl k.path) p=true:=by rw[<- hxp];exact r4
     obtain⟨k0,hk0,ek1,ek2⟩:∃ k0 ∈ s,k0.path=k.path/\k0.vars=k.vars:=by
      rw[<- h] at hk
      rcases List.mem_or_eq_of_mem_set hk with hk|hk
      ·exact⟨k,hk,rfl,rfl⟩
      ·exact⟨x,List.mem_of_getElem? hx,by rw[hk],by rw[hk]⟩
     have:mentionsB s p (bl y.name)=true:=by
      unfold mentionsB
      rw[List.any_eq_true]
      refine⟨k0,hk0,?_⟩
      rw[List.any_eq_true]
      refine⟨v,by rw[ek2];exact hv',?_⟩
      unfold mentB
      rw[ek1,hbl,Bool.true_and]
      exact hu.2
     rw[hm] at this
     cases this
   ·rw[hm,if_pos rfl] at h
    injection h with h _
    exact absurd h (by decide)
theorem yjb {s:List GroupD} (h:smallC s) (p:List UInt8) (y:DimD):smallC (addDimR s p y).2:=by
 have key:∀ (g:Nat) (x:GroupD),s[g]?=some x->smallC (s.set g ⟨x.path,insB dimK y x.dims,x.vars,x.attrs⟩):=fun g x hx=>by
  have mem:∀ k ∈ s.set g ⟨x.path,insB dimK y x.dims,x.vars,x.attrs⟩,∃ k0 ∈ s,k0.path=k.path/\k0.vars=k.vars:=fun k hk=>by
   rcases List.mem_or_eq_of_mem_set hk with hk|hk
   ·exact⟨k,hk,rfl,rfl⟩
   ·exact⟨x,List.mem_of_getElem? hx,by rw[hk],by rw[hk]⟩
  refine⟨⟨fun k hk=>?_,by rw[List.length_set];exact h.1.2.1,fun k hk=>?_⟩,fun k hk v hv=>?_⟩
  ·obtain⟨k0,h0,e1,_⟩:=mem k hk
   rw[<- e1];exact h.1.1 k0 h0
  ·obtain⟨k0,h0,_,e2⟩:=mem k hk
   rw[<- e2];exact h.1.2.2 k0 h0
  ·obtain⟨k0,h0,_,e2⟩:=mem k hk
   exact h.2 k0 h0 v (by rw[e2];exact hv)
 unfold addDimR
 split
 ·exact h
 ·split
  ·exact h
  ·split
   ·exact h
   ·rename_i hx
    split
    ·exact h
    ·split
     ·exact h
     ·exact key _ _ hx
theorem ynh {N:Nat} {s:List GroupD} (h:bSch N s) (hN:N<=1048576):smallC s/\∀ g ∈ s,smallG g:=by
 refine⟨⟨⟨fun x hx=>?_,by have:=h.1;omega,fun x hx=>?_⟩,fun x hx v hv=>?_⟩,fun x hx=>⟨?_,?_,?_,fun a ha=>?_,fun v hv=>⟨?_,?_,?_,?_,fun a ha=>?_⟩⟩⟩
 ·have:=(h.2 x hx).1;unfold bS at this;omega
 ·have:=(h.2 x hx).2.2.1.1;omega
 ·have:=((h.2 x hx).2.2.1.2 v hv).2.2.2.1.1;omega
 ·have:=(h.2 x hx).2.1.1;omega
 ·have:=(h.2 x hx).2.2.1.1;omega
 ·have:=(h.2 x hx).2.2.2.1;omega
 ·have:=((h.2 x hx).2.2.2.2 a ha).2.2.1;omega
 ·have:=((h.2 x hx).2.2.1.2 v hv).2.2.2.1.1;omega
 ·have:=((h.2 x hx).2.2.1.2 v hv).2.2.2.2.1;omega
 ·have:=((h.2 x hx).2.2.1.2 v hv).2.2.2.2.2.1.1;omega
 ·have:=((h.2 x hx).2.2.1.2 v hv).2.2.2.2.2.2.1;omega
 ·have:=(((h.2 x hx).2.2.1.2 v hv).2.2.2.2.2.2.2 a ha).2.2.1;omega
end Go.Proofs.YtajmjllhdcdkmaaGreatDoor
