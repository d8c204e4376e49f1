import Derived.Test.YtajmjllhdcdkmaaGreatDoorG1
import Derived.Lib.Split
import Derived.Lib.SlTrimSet
import Derived.Lib.Atoi
import Derived.Lib.ItoaNum
import Derived.Lib.Repeat
namespace Go.Proofs.YtajmjllhdcdkmaaGreatDoor.Str
open Go.Lib
def spl (c:UInt8):List UInt8->List (List UInt8)
 | []=>[[]]
 | x::l=>if x=c then []::spl c l else match spl c l with | []=>[[x]]|p::ps=>(x::p)::ps
theorem spl_ne (c:UInt8) (l:List UInt8):spl c l≠[]:=by
 cases l with
 | nil=>simp[spl]
 | cons x l=>unfold spl;split;simp;split<;>simp
theorem ymt {c:UInt8}:∀ {l:List UInt8},c ∉ l->spl c l=[l]
 | [],_=>rfl
 | x::l,h=>by
  have hx:x≠c:=fun e=>h (by simp[e])
  have hl:c ∉ l:=fun e=>h (by simp[e])
  simp[spl,hx,ymt hl]
theorem yn8 {c:UInt8}:∀ {a b:List UInt8},c ∉ a->spl c (a++c::b)=a::spl c b
 | [],b,_=>by simp[spl]
 | x::a,b,h=>by
  have hx:x≠c:=fun e=>h (by simp[e])
  have hl:c ∉ a:=fun e=>h (by simp[e])
  simp[spl,hx,yn8 hl]
theorem ylv {c:UInt8}:∀ {l a:List UInt8} {ps:List (List UInt8)},spl c l=a::ps->c ∉ a/\((ps=[]/\l=a)\/∃ b,l=a++c::b/\spl c b=ps)
 | [],a,ps,h=>by
  simp[spl] at h
  obtain⟨rfl,rfl⟩:=h
  simp
 | x::l,a,ps,h=>by
  unfold spl at h
  by_cases hx:x=c
  ·rw[if_pos hx] at h
   injection h with h1 h2
   subst h1 hx
   exact⟨by simp,.inr ⟨l,by simp,h2⟩⟩
  ·rw[if_neg hx] at h
   cases hs:spl c l with
   | nil=>exact absurd hs (spl_ne c l)
   | cons p qs=>
    rw[hs] at h
    injection h with h1 h2
    subst h1 h2
    obtain⟨h3,h4⟩:=ylv hs
    refine⟨fun e=>?_,?_⟩
    ·rcases List.mem_cons.1 e with e|e
     ·exact hx e.symm
     ·exact h3 e
    ·rcases h4 with ⟨rfl,rfl⟩|⟨b,rfl,hb⟩
     ·exact .inl ⟨rfl,rfl⟩
     ·exact .inr ⟨b,rfl,hb⟩
theorem yld (s:List UInt8) (c:UInt8) (i:Nat):occAt s [c] i=decide (s[i]?=some c):=by
 unfold occAt
 cases h:s[i]? with
 | none=>
  have:s.drop i=[]:=List.drop_eq_nil_of_le (by rw[List.getElem?_eq_none_iff] at h;exact h)
  simp[this]
 | some x=>
  obtain⟨hi,hx⟩:=List.getElem?_eq_some_iff.1 h
  rw[List.drop_eq_getElem_cons hi,hx]
  show (c==x&&true)=decide (some x=some c)
  rw[Bool.and_true,Bool.eq_iff_iff,beq_iff_eq,decide_eq_true_eq]
  exact⟨fun e=>by rw[e],fun e=>by injection e with e;exact e.symm⟩
theorem yjd (s:List UInt8) (c:UInt8):(index s [c] = -1/\c ∉ s)\/∃ a b,s=a++c::b/\c ∉ a/\index s [c]=(a.length:Int):=by
 by_cases h:c ∈ s
 ·right
  have key:∀ s:List UInt8,c ∈ s->∃ a b,s=a++c::b/\c ∉ a:=by
   intro s
   induction s with
   | nil=>intro h;simp at h
   | cons x l ih=>
    intro h
    by_cases hx:x=c
    ·exact⟨[],l,by simp[hx],by simp⟩
    ·obtain⟨a,b,e,hn⟩:=ih (by rcases List.mem_cons.1 h with e|e;exact absurd e.symm hx;exact e)
     refine⟨x::a,b,by rw[e];rfl,fun e'=>?_⟩
     rcases List.mem_cons.1 e' with e'|e'
     ·exact hx e'.symm
     ·exact hn e'
  obtain⟨a,b,rfl,hn⟩:=key s h
  refine⟨a,b,rfl,hn,index_first (by simp) ?_ ?_⟩
  ·rw[yld];simp
  ·intro j hj
   rw[yld,List.getElem?_append_left hj]
   have:a[j]?≠some c:=fun e=>hn (List.mem_of_getElem? e)
   simpa using this
 ·left
  refine⟨index_none fun j _=>?_,h⟩
  rw[yld]
  have:s[j]?≠some c:=fun e=>h (List.mem_of_getElem? e)
  simpa using this
theorem yj8 (c:UInt8):∀ (n:Nat) (s:List UInt8),s.length<=n->split s [c]=spl c s/\count s [c]+1=(spl c s).length
 | 0,s,h=>by
  have:s=[]:=List.eq_nil_of_length_eq_zero (by omega)
  subst this
  have hi:index [] [c] = -1:=by rcases yjd [] c with ⟨h,_⟩|⟨a,b,e,_⟩;exact h;simp at e
  unfold split
  rw[count_miss hi]
  simp[splitK,spl]
 | n+1,s,h=>by
  rcases yjd s c with ⟨hi,hn⟩|⟨a,b,rfl,hn,hi⟩
  ·unfold split
   rw[count_miss hi,ymt hn]
   simp[splitK]
  ·have hl:b.length<=n:=by simp at h;omega
   obtain⟨i1,i2⟩:=yj8 c n b hl
   have hd:(a++c::b).drop (a.length + [c].length)=b:=by simp[List.drop_append]
   have hc:=count_hit (s:=a++c::b) (sub:=[c]) (by simp) hi
   rw[hd] at hc
   unfold split at i1 ⊢
   rw[hc,yn8 hn]
   refine⟨?_,by simp;omega⟩
   rw[Nat.add_comm 1,splitK,hi]
   rw[if_neg (by simp only[beq_iff_eq];omega)]
   have hd2:(a++c::b).drop ((a.length:Int).toNat + [c].length)=b:=by simp
   rw[hd2,i1]
   congr 1
   simp
def isD (c:UInt8):Bool:=decide (48<=c.toNat/\c.toNat<=57)
def allD (l:List UInt8):Bool:=l.all isD
def val (l:List UInt8):Nat:=l.foldl (fun a c=>10*a+(c.toNat - 48)) 0
def cs10:List UInt8:=[48,49,50,51,52,53,54,55,56,57]
theorem ylj (c:UInt8):cs10.contains c=isD c:=by
 rw[Bool.eq_iff_iff,List.contains_iff_mem]
 simp only[cs10,isD,List.mem_cons,List.not_mem_nil,or_false,decide_eq_true_eq,<- UInt8.toNat_inj]
 simp only[UInt8.reduceToNat]
 omega
theorem ycm {p:UInt8->Bool}:∀ {l:List UInt8},l.dropWhile p=[] ↔ l.all p=true
 | []=>by simp
 | x::l=>by
  rw[List.dropWhile_cons]
  cases h:p x
  ·simp[h]
  ·simp only[if_true,List.all_cons,h,Bool.true_and]
   exact ycm
theorem yky (l:List UInt8):trimS l cs10=[] ↔ allD l=true:=by
 have hf:(fun x=>cs10.contains x)=isD:=funext ylj
 unfold trimS trimLeftS trimRightS
 rw[hf,ycm]
 constructor
 ·intro h
  have hr:(l.reverse.dropWhile isD).all isD=true:=by simpa[List.all_reverse] using h
  have hd:l.reverse.dropWhile isD=[]:=by
   cases hx:l.reverse.dropWhile isD with
   | nil=>rfl
   | cons x t=>
    have h1:isD x=false:=by
     have:=List.head_dropWhile_not isD (l:=l.reverse) (by rw[hx];simp)
     simpa[hx] using this
    rw[hx] at hr
    simp[h1] at hr
  have:=ycm.1 hd
  unfold allD
  simpa[List.all_reverse] using this
 ·intro h
  have:l.reverse.dropWhile isD=[]:=ycm.2 (by unfold allD at h;simpa[List.all_reverse] using h)
  rw[this];rfl
theorem yms:∀ (l:List UInt8) (a:Nat),allD l=true->l.foldl (fun a c=>10*a+(c.toNat - 48)) a<(a+1)*10 ^ l.length
 | [],a,_=>by simp
 | x::l,a,h=>by
  have h':isD x=true/\allD l=true:=by unfold allD at h ⊢;simpa using h
  have hd:=of_decide_eq_true h'.1
  rw[List.foldl_cons]
  have ih:=yms l (10*a+(x.toNat - 48)) h'.2
  have hle:(10*a+(x.toNat - 48)+1)*10 ^ l.length<=((a+1)*10)*10 ^ l.length:=Nat.mul_le_mul_right _ (by omega)
  rw[List.length_cons,Nat.pow_succ]
  refine Nat.lt_of_lt_of_le ih (Nat.le_trans hle (Nat.le_of_eq ?_))
  rw[Nat.mul_assoc,Nat.mul_comm 10]
theorem yft (l:List UInt8) (h:allD l=true):val l<10 ^ l.length:=by have:=yms l 0 h;simpa[val] using this
theorem yis (l:List UInt8) (c:UInt8):val (l++[c])=10*val l+(c.toNat - 48):=by simp[val]
def pad:Nat->Nat->List UInt8
 | 0,_=>[]
 | k+1,n=>pad k (n / 10)++[UInt8.ofNat (48+n % 10)]
theorem yeb:∀ k n,(pad k n).length=k
 | 0,_=>rfl
 | k+1,n=>by simp[pad,yeb k]
theorem yb7 (n:Nat) (h:n<10):(UInt8.ofNat (48+n)).toNat=48+n:=by rw[UInt8.toNat_ofNat'];exact Nat.mod_eq_of_lt (by omega)
theorem yh1:∀ k n,allD (pad k n)=true
 | 0,_=>rfl
 | k+1,n=>by
  have ih:=yh1 k (n / 10)
  unfold allD at ih ⊢
  rw[pad,List.all_append,ih]
  have:=yb7 (n % 10) (by omega)
  simp only[List.all_cons,List.all_nil,Bool.and_true,Bool.true_and]
  unfold isD
  rw[this]
  simp;omega
theorem ylh:∀ k n,n<10 ^ k->val (pad k n)=n
 | 0,n,h=>by simp at h;subst h;rfl
 | k+1,n,h=>by
  rw[pad,yis,ylh k (n / 10) (by rw[Nat.pow_succ] at h;omega),yb7 _ (by omega)]
  omega
theorem yti:∀ (l:List UInt8) (k:Nat),allD l=true->l.length=k->pad k (val l)=l:=by
 intro l k h hk
 subst hk
 have key:∀ (k:Nat) (l:List UInt8),l.length=k->allD l=true->pad k (val l)=l:=by
  intro k
  induction k with
  | zero=>intro l hl _;have:=List.eq_nil_of_length_eq_zero hl;subst this;rfl
  | succ k ih=>
   intro l hl h
   have hne:l≠[]:=by intro e;subst e;simp at hl
   obtain⟨a,c,rfl⟩:∃ a c,l=a++[c]:=⟨l.dropLast,l.getLast hne,(List.dropLast_concat_getLast hne).symm⟩
   have ha:a.length=k:=by simp at hl;exact hl
   have h':allD a=true/\isD c=true:=by unfold allD at h ⊢;simpa using h
   have hd:=of_decide_eq_true h'.2
   rw[yis,pad]
   have e1:(10*val a+(c.toNat - 48)) / 10=val a:=by omega
   have e2:(10*val a+(c.toNat - 48)) % 10=c.toNat - 48:=by omega
   rw[e1,e2,ih a ha h'.1]
   congr 2
   apply UInt8.toNat.inj
   rw[yb7 _ (by omega)]
   omega
 exact key _ l rfl h
theorem yg2:∀ k,repeatL [48] k=List.replicate k 48
 | 0=>rfl
 | k+1=>by rw[repeatL,yg2 k];rfl
theorem yb1 (u:Nat):0<(decDigits u).length:=by
 rw[decDigits];split<;>simp
theorem yf4:∀ k,pad k 0=List.replicate k 48
 | 0=>rfl
 | k+1=>by
  have h0:UInt8.ofNat (48+0 % 10)=48:=by decide
  rw[pad,h0,yf4 k,List.replicate_succ']
theorem ycn:∀ (k n:Nat),n<10 ^ k->0<k->(decDigits n).length<=k/\List.replicate (k - (decDigits n).length) 48++decDigits n=pad k n
 | 0,n,_,hk=>by omega
 | k+1,n,h,_=>by
  by_cases hn:n<10
  ·rw[decDigits,dif_pos hn,pad]
   have e1:n / 10=0:=by omega
   have e2:n % 10=n:=by omega
   rw[e1,e2,yf4]
   simp
  ·have hk:0<k:=by
    rcases Nat.eq_zero_or_pos k with e|e
    ·subst e;simp at h;omega
    ·exact e
   obtain⟨i1,i2⟩:=ycn k (n / 10) (by rw[Nat.pow_succ] at h;omega) hk
   rw[decDigits,dif_neg hn,pad]
   refine⟨by simp;omega,?_⟩
   rw[<- i2]
   simp
end Go.Proofs.YtajmjllhdcdkmaaGreatDoor.Str
namespace Go.Proofs.YtajmjllhdcdkmaaGreatDoor.Num
open Go.Proofs.YtajmjllhdcdkmaaGreatDoor.Str Go.Proofs.YtajmjllhdcdkmaaGreatDoor.Dg Go.Lib
theorem yeh (a b:List UInt8):val (a++b)=val a*10 ^ b.length+val b:=by
 have key:∀ (l:List UInt8) (x:Nat),l.foldl (fun a c=>10*a+(c.toNat - 48)) x=x*10 ^ l.length+l.foldl (fun a c=>10*a+(c.toNat - 48)) 0:=by
  intro l
  induction l with
  | nil=>intro x;simp
  | cons c l ih=>
   intro x
   simp only[List.foldl_cons,List.length_cons]
   rw[ih (10*x+(c.toNat - 48)),ih (10*0+(c.toNat - 48)),Nat.pow_succ,Nat.add_mul,Nat.add_mul]
   have:10*x*10 ^ l.length=x*(10 ^ l.length*10):=by ac_rfl
   omega
 unfold val
 rw[List.foldl_append,key]
theorem yat (a b:List UInt8):allD (a++b)=(allD a&&allD b):=by unfold allD;simp
theorem yb0 {u:Nat} (h:u<10):decDigits u=[UInt8.ofNat (48+u)]:=by rw[decDigits,dif_pos h]
theorem ykx {u:Nat} (h:¬u<10):decDigits u=decDigits (u / 10)++[UInt8.ofNat (48+u % 10)]:=by rw[decDigits,dif_neg h]
theorem yji {n:Nat} (h:n<10):isD (UInt8.ofNat (48+n))=true:=by
 unfold isD
 rw[yb7 n h]
 simp;omega
theorem ybn (u:Nat):allD (decDigits u)=true:=by
 induction u using Nat.strongRecOn with
 | ind u ih=>
  by_cases h:u<10
  ·rw[yb0 h]
   show (isD _&&true)=true
   rw[yji h];rfl
  ·rw[ykx h,yat,ih _ (by omega)]
   show (true&&(isD _&&true))=true
   rw[yji (show u % 10<10 by omega)];rfl
theorem ybz (u:Nat):val (decDigits u)=u:=by
 induction u using Nat.strongRecOn with
 | ind u ih=>
  by_cases h:u<10
  ·rw[yb0 h];unfold val;simp only[List.foldl_cons,List.foldl_nil];rw[yb7 u h];omega
  ·rw[ykx h,yis,ih _ (by omega),yb7 _ (by omega)];omega
def canon (l:List UInt8):Bool:=allD l&&!l.isEmpty&&(l.head? != some 48||l==[48])
theorem yln (u:Nat) (h:u≠0):(decDigits u).head?≠some 48:=by
 induction u using Nat.strongRecOn with
 | ind u ih=>
  by_cases h1:u<10
  ·rw[yb0 h1]
   intro e
   have e1:UInt8.ofNat (48+u)=48:=by injection e
   have e2:=congrArg UInt8.toNat e1
   rw[yb7 u h1] at e2
   have e3:(48:UInt8).toNat=48:=rfl
   omega
  ·rw[ykx h1]
   have hl:=yb1 (u / 10)
   rw[List.head?_append]
   have:=ih (u / 10) (by omega) (by omega)
   cases hd:decDigits (u / 10) with
   | nil=>rw[hd] at hl;simp at hl
   | cons x l=>rw[hd] at this;simpa using this
theorem ygt (u:Nat):canon (decDigits u)=true:=by
 unfold canon
 have hl:=yb1 u
 rw[ybn]
 by_cases h:u=0
 ·subst h;rw[yb0 (by decide)];rfl
 ·have h1:=yln u h
  cases hd:decDigits u with
  | nil=>rw[hd] at hl;simp at hl
  | cons x l=>rw[hd] at h1;simp at h1 ⊢;exact .inl h1
theorem yfq {l:List UInt8} (h:canon l=true):decDigits (val l)=l:=by
 unfold canon at h
 simp only[Bool.and_eq_true,Bool.not_eq_true',Bool.or_eq_true,bne_iff_ne,beq_iff_eq,ne_eq] at h
 obtain⟨⟨h1,h2⟩,h3⟩:=h
 have hne:l≠[]:=by rintro rfl;simp at h2
 have hpos:0<l.length:=List.length_pos_iff.2 hne
 obtain⟨p1,p2⟩:=ycn l.length (val l) (yft l h1) hpos
 rw[yti l l.length h1 rfl] at p2
 by_cases he:l.length - (decDigits (val l)).length=0
 ·rw[he] at p2;simpa using p2
 ·rcases h3 with h3|h3
  ·obtain⟨m,hm⟩:∃ m,l.length - (decDigits (val l)).length=m+1:=⟨_,(Nat.succ_pred he).symm⟩
   rw[hm,List.replicate_succ] at p2
   rw[<- p2] at h3
   simp at h3
  ·subst h3
   have e:val [48]=0:=rfl
   rw[e,yb0 (by decide)];rfl
theorem ydd {u k:Nat} (hk:0<k):(decDigits u).length<=k ↔ u<10 ^ k:=by
 constructor
 ·intro h
  have:=yft _ (ybn u)
  rw[ybz] at this
  exact Nat.lt_of_lt_of_le this (Nat.pow_le_pow_right (by decide) h)
 ·intro h;exact(ycn k u h hk).1
theorem yp1 {x y k:Nat} (hx:x≠0) (hy:y<10 ^ k):decDigits (x*10 ^ k+y)=decDigits x++pad k y:=by
 have h:=yfq (l:=decDigits x++pad k y) (by
  unfold canon
  have h1:=yln x hx
  have hl:=yb1 x
  rw[yat,ybn,yh1]
  cases hd:decDigits x with
  | nil=>rw[hd] at hl;simp at hl
  | cons c l=>rw[hd] at h1;simp at h1 ⊢;exact .inl h1)
 rw[yeh,ybz,yeb,ylh k y hy] at h
 exact h
theorem yi8 (i:Nat):pw i=10 ^ (9*i):=by unfold pw;rw[show (1000000000:Nat)=10 ^ 9 by decide,<- Nat.pow_mul]
end Go.Proofs.YtajmjllhdcdkmaaGreatDoor.Num
namespace Go.Proofs.YtajmjllhdcdkmaaGreatDoor.Num
open Go.Proofs.YtajmjllhdcdkmaaGreatDoor.Str Go.Proofs.YtajmjllhdcdkmaaGreatDoor.Dg Go.Proofs.YtajmjllhdcdkmaaGreatDoor.Q Go.Lib
def txt (q:Rat):List UInt8:=(if ngt q=true then [45] else [])++(decDigits (top q)++(if q.den=1 then [] else 47::decDigits q.den))
def short (q:Rat):Bool:=decide ((decDigits (top q)).length<=40)&&decide ((decDigits q.den).length<=40)
def put (q:Rat):List UInt8:=if short q=true then txt q else []
def isNeg (l:List UInt8):Bool:=l.head?==some 45
def body (l:List UInt8):List UInt8:=if isNeg l=true then l.tail else l
def frm (l:List UInt8):Option Rat:=
 if (body l).takeWhile isD=[] then none else
 match (body l).dropWhile isD with
 | []=>some (mkRat (sg (isNeg l) (val ((body l).takeWhile isD))) 1)
 | c::m=>
  if m=[]\/allD m=false then none
  else if c=46 then some (mkRat (sg (isNeg l) (val ((body l).takeWhile isD++m))) (10 ^ m.length))
  else if c=47 then (if val m=0 then none else some (mkRat (sg (isNeg l) (val ((body l).takeWhile isD))) (val m)))
  else none
def num? (l:List UInt8):Option Rat:=(frm l).filter fun q=>short q&&txt q==l
theorem ydo {a b:List UInt8} (ha:allD a=true) (hb:∀ c,b.head?=some c->isD c=false):(a++b).takeWhile isD=a/\(a++b).dropWhile isD=b:=by
 induction a with
 | nil=>
  cases b with
  | nil=>exact⟨rfl,rfl⟩
  | cons c b=>have:=hb c rfl;simp[this]
 | cons x a ih=>
  have h1:isD x=true/\allD a=true:=by simpa[allD] using ha
  obtain⟨i1,i2⟩:=ih h1.2
  constructor
  ·rw[List.cons_append,List.takeWhile_cons,if_pos h1.1,i1]
  ·rw[List.cons_append,List.dropWhile_cons,if_pos h1.1,i2]
theorem yfo (l:List UInt8):∃ a b,l=a++b/\allD a=true/\(∀ c,b.head?=some c->isD c=false):=by
 induction l with
 | nil=>exact⟨[],[],rfl,rfl,fun c h=>by cases h⟩
 | cons x l ih=>
  by_cases hx:isD x=true
  ·obtain⟨a,b,e,h1,h2⟩:=ih
   exact⟨x::a,b,by rw[e];rfl,by simpa[allD,hx] using h1,h2⟩
  ·exact⟨[],x::l,rfl,rfl,fun c h=>by cases h;simpa using hx⟩
theorem yd0:isD 46=false:=rfl
theorem yc7:isD 47=false:=rfl
theorem yc3 {l:List UInt8} (h:allD l=true) {c:UInt8} (hc:c ∈ l):isD c=true:=by unfold allD at h;exact List.all_eq_true.1 h c hc
theorem yhd {c:UInt8}:∀ {a a' b b':List UInt8},c ∉ a->c ∉ a'->a++c::b=a'++c::b'->a=a'/\b=b':=by
 intro a
 induction a with
 | nil=>
  intro a' b b' _ h2 e
  cases a' with
  | nil=>simpa using e
  | cons x a'=>simp at e;exact absurd (by simp[e.1]) h2
 | cons x a ih=>
  intro a' b b' h1 h2 e
  cases a' with
  | nil=>simp at e;exact absurd (by simp[e.1]) h1
  | cons y a'=>
   simp only[List.cons_append,List.cons.injEq] at e
   obtain⟨rfl,e⟩:=e
   obtain⟨rfl,rfl⟩:=ih (fun h=>h1 (List.mem_cons_of_mem _ h)) (fun h=>h2 (List.mem_cons_of_mem _ h)) e
   exact⟨rfl,rfl⟩
theorem ylg {l:List UInt8} (h1:(47:UInt8) ∉ body l) (h2:(46:UInt8) ∉ body l) :
  frm l=if body l≠[]/\allD (body l)=true then some (mkRat (sg (isNeg l) (val (body l))) 1) else none:=by
 unfold frm
 obtain⟨a,b,e,ha,hb⟩:=yfo (body l)
 obtain⟨t1,t2⟩:=ydo ha hb
 rw[e] at h1 h2 ⊢
 rw[t1,t2]
 cases b with
 | nil=>
  rw[List.append_nil,ha]
  by_cases h0:a=[]
  ·rw[if_pos h0,if_neg (by simp[h0])]
  ·rw[if_neg h0,if_pos ⟨h0,rfl⟩]
 | cons c m=>
  have hc:=hb c rfl
  have hn:allD (a++c::m)=false:=by rw[yat,show allD (c::m)=(isD c&&allD m) from rfl,hc];simp
  rw[hn,if_neg (show ¬(a++c::m≠[]/\false=true) from fun h=>by cases h.2)]
  have c1:c≠46:=fun e=>h2 (by simp[e])
  have c2:c≠47:=fun e=>h1 (by simp[e])
  simp only[c1,c2,if_false]
  split
  ·rfl
  ·split<;>rfl
theorem yj4 {a b:List UInt8} {c d:UInt8} {m _x y:List UInt8} (hc:isD c=false) (e:a++c::y=b++d::m) (hb:allD b=true) (ha:allD a=false) (_hd:isD d=false):allD m=false:=by
 have:c ∈ m:=by
  rcases List.append_eq_append_iff.1 e with ⟨z,e1,e2⟩|⟨z,e1,e2⟩
  ·exfalso
   rw[e1,yat] at hb
   rw[ha] at hb;simp at hb
  ·cases z with
   | nil=>
    simp at e1 e2
    rw[e1,hb] at ha;cases ha
   | cons z0 z=>
    simp at e2
    rw[e2.2];simp
 cases h:allD m
 ·rfl
 ·rw[yc3 h this] at hc;cases hc
theorem yet {l a b:List UInt8} {s:UInt8} (e:body l=a++s::b) (hs:isD s=false) :
  frm l=if a≠[]/\allD a=true/\b≠[]/\allD b=true then
   (if s=46 then some (mkRat (sg (isNeg l) (val (a++b))) (10 ^ b.length))
    else if s=47 then (if val b=0 then none else some (mkRat (sg (isNeg l) (val a)) (val b))) else none) else none:=by
 unfold frm
 cases ha:allD a
 ·rw[if_neg (show ¬(a≠[]/\false=true/\_) from fun h=>by cases h.2.1)]
  obtain⟨x,y,e1,h1,h2⟩:=yfo (body l)
  obtain⟨t1,t2⟩:=ydo h1 h2
  rw[e1,t1,t2]
  cases y with
  | nil=>
   exfalso
   rw[List.append_nil] at e1
   rw[<- e1,e,yat,ha] at h1;simp at h1
  | cons d m=>
   have hd:=h2 d rfl
   have hm:=yj4 (_x:=[]) hs (e.symm.trans e1) h1 ha hd
   simp only[hm,or_true,if_true]
   split<;>rfl
 ·obtain⟨t1,t2⟩:=ydo (b:=s::b) ha (fun c h=>by cases h;exact hs)
  rw[e,t1,t2]
  by_cases h0:a=[]
  ·rw[if_pos h0,if_neg (fun h=>h.1 h0)]
  ·rw[if_neg h0]
   show (if b=[]\/allD b=false then none else _)=_
   by_cases h3:b=[]\/allD b=false
   ·rw[if_pos h3,if_neg (c:=a≠[]/\true=true/\b≠[]/\allD b=true)]
    rintro⟨_,_,h4,h5⟩
    rcases h3 with h3|h3
    ·exact h4 h3
    ·rw[h3] at h5;cases h5
   ·rw[if_neg h3,if_pos (c:=a≠[]/\true=true/\b≠[]/\allD b=true)]
    refine⟨h0,rfl,fun h=>h3 (.inl h),?_⟩
    cases h5:allD b
    ·exact absurd (.inr h5) h3
    ·rfl
theorem yhl (u:Nat):decDigits u≠[]:=fun h=>by have:=yb1 u;rw[h] at this;simp at this
theorem yem (u:Nat) {c:UInt8} (h:(decDigits u).head?=some c):isD c=true:=yc3 (ybn u) (List.mem_of_mem_head? h)
theorem ygo (q:Rat):isNeg (txt q)=ngt q:=by
 unfold isNeg txt
 cases hn:ngt q
 ·simp only[Bool.false_eq_true,if_false,List.nil_append]
  cases hd:decDigits (top q) with
  | nil=>exact absurd hd (yhl _)
  | cons x l=>
   have hx:=yem (top q) (c:=x) (by rw[hd];rfl)
   have:x≠45:=fun e=>by rw[e] at hx;cases hx
   simpa using this
 ·rfl
theorem ye6 (q:Rat):body (txt q)=decDigits (top q)++(if q.den=1 then [] else 47::decDigits q.den):=by
 unfold body
 rw[ygo]
 unfold txt
 cases ngt q<;>rfl
theorem ynp (q:Rat):mkRat (sg (ngt q) (top q)) q.den=q:=by rw[<- yen];exact Rat.mkRat_self q
theorem yhz (q:Rat):frm (txt q)=some q:=by
 have hb:=ye6 q
 have hm:=ynp q
 by_cases h1:q.den=1
 ·rw[if_pos h1,List.append_nil] at hb
  have m1:(47:UInt8) ∉ body (txt q):=by rw[hb];exact fun h=>by cases yc3 (ybn _) h
  have m2:(46:UInt8) ∉ body (txt q):=by rw[hb];exact fun h=>by cases yc3 (ybn _) h
  rw[ylg m1 m2,hb,if_pos ⟨yhl _,ybn _⟩,ygo,ybz]
  rw[h1] at hm;rw[hm]
 ·rw[if_neg h1] at hb
  have hv:val (decDigits q.den)≠0:=by rw[ybz];exact q.den_nz
  rw[yet hb yc7,if_pos ⟨yhl _,ybn _,yhl _,ybn _⟩,if_neg (by decide),if_pos rfl,if_neg hv,ygo,ybz,ybz,hm]
theorem ycf {l:List UInt8} {q:Rat}:num? l=some q ↔ txt q=l/\short q=true:=by
 unfold num?
 constructor
 ·intro h
  obtain⟨h1,h2⟩:=Option.filter_eq_some_iff.1 h
  simp only[Bool.and_eq_true,beq_iff_eq] at h2
  exact⟨h2.2,h2.1⟩
 ·rintro⟨rfl,h⟩
  exact Option.filter_eq_some_iff.2 ⟨yhz q,by simp[h]⟩
theorem ypu {p q:Rat} (h:txt p=txt q):p=q:=by have:=yhz p;rw[h,yhz] at this;injection this with e;exact e.symm
theorem txt_zero:txt 0=[48]:=by decide +kernel
theorem ycx {q:Rat} (h:short q=true):(txt q).length<=82:=by
 unfold short at h
 simp only[Bool.and_eq_true,decide_eq_true_eq] at h
 unfold txt
 rw[List.length_append,List.length_append]
 have h1:(if ngt q=true then ([45]:List UInt8) else []).length<=1:=by split<;>simp
 have h2:(if q.den=1 then ([]:List UInt8) else 47::decDigits q.den).length<=41:=by split<;>simp<;>omega
 omega
end Go.Proofs.YtajmjllhdcdkmaaGreatDoor.Num
namespace Go.Proofs.YtajmjllhdcdkmaaGreatDoor.Num
open Go.Proofs.YtajmjllhdcdkmaaGreatDoor.Str Go.Proofs.YtajmjllhdcdkmaaGreatDoor.Dg Go.Proofs.YtajmjllhdcdkmaaGreatDoor.Q Go.Lib
theorem yid (l:List UInt8):l=(if isNeg l=true then [45] else [])++body l:=by
 unfold body
 cases h:isNeg l
 ·rfl
 ·unfold isNeg at h
  cases l with
  | nil=>cases h
  | cons x l=>simp at h;rw[h];rfl
theorem ydc {l:List UInt8} (h:canon l=true):val l=0 ↔ l=[48]:=by
 constructor
 ·intro e
  have:=yfq h
  rw[e,yb0 (by decide)] at this
  exact this.symm
 ·rintro rfl;rfl
theorem yia {l:List UInt8} (h:canon l=true):val l=1 ↔ l=[49]:=by
 constructor
 ·intro e
  have:=yfq h
  rw[e,yb0 (by decide)] at this
  exact this.symm
 ·rintro rfl;rfl
theorem ydf {l:List UInt8} (h:canon l=true):allD l=true/\l≠[]:=by
 unfold canon at h
 simp only[Bool.and_eq_true,Bool.not_eq_true'] at h
 exact⟨h.1.1,by rintro rfl;simp at h⟩
theorem parts_of {b:Bool} {n d:Nat} (hd:d≠0) (hb:b=true->n≠0) (hg:Nat.gcd n d=1):top (mkRat (sg b n) d)=n/\(mkRat (sg b n) d).den=d/\ngt (mkRat (sg b n) d)=b:=by
 refine⟨by rw[yhy hd,hg,Nat.div_one],by rw[yir hd,hg,Nat.div_one],?_⟩
 by_cases hn:n=0
 ·subst hn
  rw[ygv]
  cases b
  ·rfl
  ·exact absurd rfl (hb rfl)
 ·exact yij hn hd
theorem yi7 {q:Rat} {b:Bool} {n d:Nat} (h1:top q=n) (h2:q.den=d) (h3:ngt q=b):txt q=(if b=true then [45] else [])++(decDigits n++(if d=1 then [] else 47::decDigits d)):=by
 subst h1 h2 h3;rfl
theorem ys5 {l:List UInt8} (hc:canon (body l)=true) (hn:isNeg l=true->body l≠[48]) :
  txt (mkRat (sg (isNeg l) (val (body l))) 1)=l/\top (mkRat (sg (isNeg l) (val (body l))) 1)=val (body l)/\(mkRat (sg (isNeg l) (val (body l))) 1).den=1/\ngt (mkRat (sg (isNeg l) (val (body l))) 1)=isNeg l:=by
 obtain⟨p1,p2,p3⟩:=parts_of (b:=isNeg l) (n:=val (body l)) (d:=1) (by decide) (fun h e=>hn h ((ydc hc).1 e)) (Nat.gcd_one_right _)
 refine⟨?_,p1,p2,p3⟩
 rw[yi7 p1 p2 p3,if_pos rfl,List.append_nil,yfq hc]
 exact(yid l).symm
theorem ym1 {l:List UInt8} {q:Rat} (h:(47:UInt8) ∉ body l) (e:txt q=l):canon (body l)=true/\(isNeg l=true->body l≠[48]):=by
 subst e
 have hb:=ye6 q
 by_cases h1:q.den=1
 ·rw[if_pos h1,List.append_nil] at hb
  rw[hb,ygo]
  refine⟨ygt _,fun hn e=>yk9 hn ?_⟩
  have:=ybz (top q)
  rw[e] at this;exact this.symm
 ·rw[if_neg h1] at hb
  exact absurd (by rw[hb];simp) h
theorem yn0 {l a b:List UInt8} (e:body l=a++47::b) (ca:canon a=true) (cb:canon b=true) (ha:a≠[48]) (hb:b≠[48]) (hb1:b≠[49]) (hg:Nat.gcd (val a) (val b)=1) :
  txt (mkRat (sg (isNeg l) (val a)) (val b))=l/\top (mkRat (sg (isNeg l) (val a)) (val b))=val a/\(mkRat (sg (isNeg l) (val a)) (val b)).den=val b/\ngt (mkRat (sg (isNeg l) (val a)) (val b))=isNeg l:=by
 obtain⟨p1,p2,p3⟩:=parts_of (b:=isNeg l) (n:=val a) (d:=val b) (fun e=>hb ((ydc cb).1 e)) (fun _ e=>ha ((ydc ca).1 e)) hg
 refine⟨?_,p1,p2,p3⟩
 rw[yi7 p1 p2 p3,if_neg (fun e=>hb1 ((yia cb).1 e)),yfq ca,yfq cb,<- e]
 exact(yid l).symm
theorem yfl {l a b:List UInt8} {q:Rat} (e:body l=a++47::b) (ha:(47:UInt8) ∉ a) (et:txt q=l) :
  canon a=true/\canon b=true/\a≠[48]/\b≠[48]/\b≠[49]/\Nat.gcd (val a) (val b)=1/\a=decDigits (top q)/\b=decDigits q.den:=by
 subst et
 have hb:=ye6 q
 have no47:∀ u,(47:UInt8) ∉ decDigits u:=fun u h=>by cases yc3 (ybn u) h
 by_cases h1:q.den=1
 ·rw[if_pos h1,List.append_nil] at hb
  rw[hb] at e
  exact absurd (show (47:UInt8) ∈ decDigits (top q) by rw[e];simp) (no47 _)
 ·rw[if_neg h1,e] at hb
  obtain⟨rfl,rfl⟩:=yhd ha (no47 _) hb
  refine⟨ygt _,ygt _,fun h=>?_,fun h=>?_,fun h=>?_,?_,rfl,rfl⟩
  ·have h2:=ybz (top q)
   rw[h] at h2
   have h3:top q=0:=h2.symm
   have:=yf5.1 h3
   subst this
   exact h1 rfl
  ·have:=ybz q.den
   rw[h] at this
   exact q.den_nz this.symm
  ·have:=ybz q.den
   rw[h] at this
   exact h1 this.symm
  ·rw[ybz,ybz];exact coprime q
def lng? (l:List UInt8):Option Rat:=(frm l).filter fun q=>txt q==l
theorem yfi {l:List UInt8} {q:Rat}:lng? l=some q ↔ txt q=l:=by
 unfold lng?
 constructor
 ·intro h
  obtain⟨h1,h2⟩:=Option.filter_eq_some_iff.1 h
  exact by simpa using h2
 ·rintro rfl
  exact Option.filter_eq_some_iff.2 ⟨yhz q,by simp⟩
theorem ytc {l:List UInt8}:num? l=(lng? l).filter short:=by
 cases h:lng? l with
 | none=>
  cases h2:num? l with
  | none=>rfl
  | some q=>have:=yfi.2 (ycf.1 h2).1;rw[h] at this;cases this
 | some q=>
  have h1:=yfi.1 h
  cases hs:short q
  ·have:(some q).filter short=none:=by simp[Option.filter,hs]
   rw[this]
   cases h2:num? l with
   | none=>rfl
   | some p=>
    have h3:=ycf.1 h2
    have:=ypu (h1.trans h3.1.symm)
    subst this
    rw[hs] at h3;cases h3.2
  ·have:(some q).filter short=some q:=by simp[Option.filter,hs]
   rw[this]
   exact ycf.2 ⟨h1,hs⟩
theorem yl8 {l:List UInt8} (h:∀ q,txt q≠l):lng? l=none:=by
 cases h2:lng? l with
 | none=>rfl
 | some q=>exact absurd (yfi.1 h2) (h q)
theorem yqd {l a b:List UInt8} {q:Rat} (e:body l=a++47::b) (ha:(47:UInt8) ∉ a) (et:txt q=l):short q=(decide (a.length<=40)&&decide (b.length<=40)):=by
 obtain⟨_,_,_,_,_,_,h1,h2⟩:=yfl e ha et
 unfold short
 rw[<- h1,<- h2]
theorem ynw {l:List UInt8} {q:Rat} (h:(47:UInt8) ∉ body l) (et:txt q=l):short q=decide ((body l).length<=40):=by
 subst et
 have hb:=ye6 q
 by_cases h1:q.den=1
 ·rw[if_pos h1,List.append_nil] at hb
  rw[hb]
  unfold short
  have h2:(decDigits 1).length<=40:=by rw[yb0 (by decide)];decide
  rw[h1,decide_eq_true h2,Bool.and_true]
 ·rw[if_neg h1] at hb
  exact absurd (by rw[hb];simp) h
end Go.Proofs.YtajmjllhdcdkmaaGreatDoor.Num
namespace Go.Proofs.YtajmjllhdcdkmaaGreatDoor.Num
open Go.Proofs.YtajmjllhdcdkmaaGreatDoor.Str Go.Proofs.YtajmjllhdcdkmaaGreatDoor.Dg Go.Lib
theorem ynz:val []=0:=rfl
theorem ym4 {r r1 ch:List UInt8} (e:r=r1++ch) (h:ch.length=9\/(r1=[]/\ch.length<=9)) (hd:allD ch=true):val ch=val r % 1000000000/\val r1=val r / 1000000000:=by
 subst e
 have h1:=yft ch hd
 rw[yeh]
 rcases h with h|⟨rfl,h⟩
 ·rw[h] at h1 ⊢
  omega
 ·have h2:(10:Nat) ^ ch.length<=10 ^ 9:=Nat.pow_le_pow_right (by decide) h
  rw[ynz]
  omega
theorem yoq {s r r1 ch:List UInt8} {i:Nat} (hr:val r=val s / pw i) (e:r=r1++ch) (h:ch.length=9\/(r1=[]/\ch.length<=9)) (hd:allD ch=true) :
  val ch=Dg.dg (val s) i/\val r1=val s / pw (i+1):=by
 obtain⟨h1,h2⟩:=ym4 e h hd
 rw[hr] at h1 h2
 exact⟨h1,by rw[yif];exact h2⟩
theorem yqp {s:List UInt8} {i:Nat} (h:val ([]:List UInt8)=val s / pw i):sumTo (Dg.dg (val s)) i=val s:=by
 rw[yc2]
 refine Nat.mod_eq_of_lt ?_
 have h1:=Nat.lt_div_mul_add (a:=val s) (yc8 i)
 rw[<- h,ynz] at h1
 omega
theorem yna {a i:Nat} (h:i+1<nd a):decDigits (a / pw i)=decDigits (a / pw (i+1))++pad 9 (Dg.dg a i):=by
 have h1:a / pw (i+1)≠0:=by
  have h0:a≠0:=by rintro rfl;rw[yar] at h;omega
  have h1:=yd6 h0
  have h2:=pw_le (show i+1<=nd a - 1 by omega)
  have:=Nat.div_pos (Nat.le_trans h2 h1) (yc8 _)
  omega
 have h2:=dg_lt a i
 rw[<- yp1 h1 (y:=Dg.dg a i) (k:=9) (by simpa using h2),ybl a i]
 congr 1;omega
theorem ypr (a:Nat):decDigits (a / pw 0)=decDigits a:=by rw[ybb,Nat.div_one]
theorem dec_lt {a:Nat}:a<10 ^ (decDigits a).length:=by have:=yft _ (ybn a);rwa [ybz] at this
end Go.Proofs.YtajmjllhdcdkmaaGreatDoor.Num
namespace Go.Proofs.YtajmjllhdcdkmaaGreatDoor.Num
open Go.Proofs.YtajmjllhdcdkmaaGreatDoor.Str Go.Proofs.YtajmjllhdcdkmaaGreatDoor.Dg Go.Proofs.YtajmjllhdcdkmaaGreatDoor.Q Go.Lib
end Go.Proofs.YtajmjllhdcdkmaaGreatDoor.Num
