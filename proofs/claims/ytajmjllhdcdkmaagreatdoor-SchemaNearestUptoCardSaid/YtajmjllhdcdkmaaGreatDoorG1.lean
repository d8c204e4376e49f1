namespace Go.Proofs.YtajmjllhdcdkmaaGreatDoor.Dg
def pw (i:Nat):Nat:=1000000000 ^ i
def dg (a j:Nat):Nat:=a / pw j % 1000000000
def nd (a:Nat):Nat:=if h:a=0 then 0 else nd (a / 1000000000)+1
termination_by a
decreasing_by omega
theorem ybb:pw 0=1:=rfl
theorem ybp (i:Nat):pw (i+1)=1000000000*pw i:=by unfold pw;rw[Nat.pow_succ,Nat.mul_comm]
theorem yc8 (i:Nat):0<pw i:=Nat.pow_pos (by decide)
theorem ygs (i j:Nat):pw (i+j)=pw i*pw j:=Nat.pow_add _ _ _
theorem pw_le {i j:Nat} (h:i<=j):pw i<=pw j:=Nat.pow_le_pow_right (by decide) h
theorem pw_lt {i j:Nat} (h:pw i<pw j):i<j:=by
 rcases Nat.lt_or_ge i j with h1|h1
 ·exact h1
 ·have:=pw_le h1;omega
theorem dg_lt (a j:Nat):dg a j<1000000000:=Nat.mod_lt _ (by decide)
theorem yif (a i:Nat):a / pw (i+1)=a / pw i / 1000000000:=by rw[ybp,Nat.mul_comm,Nat.div_div_eq_div_mul]
theorem ybl (a i:Nat):a / pw i=1000000000*(a / pw (i+1))+dg a i:=by rw[yif];unfold dg;omega
theorem yck (a i:Nat):a % pw (i+1)=a % pw i+dg a i*pw i:=by
 rw[ybp,Nat.mul_comm,Nat.mod_mul,Nat.mul_comm (pw i)];rfl
theorem yar:nd 0=0:=by unfold nd;simp
theorem ydp {a:Nat} (h:a≠0):nd a=nd (a / 1000000000)+1:=by rw[nd];simp[h]
theorem nd_eq_zero {a:Nat}:nd a=0 ↔ a=0:=by
 constructor
 ·intro h
  by_cases h0:a=0
  ·exact h0
  ·rw[ydp h0] at h;omega
 ·rintro rfl;exact yar
theorem yba (a:Nat):a<pw (nd a):=by
 induction a using Nat.strongRecOn with
 | ind a ih=>
  by_cases h0:a=0
  ·subst h0;rw[yar];decide
  ·rw[ydp h0,ybp]
   have:=ih (a / 1000000000) (by omega)
   omega
theorem yd6 {a:Nat} (h:a≠0):pw (nd a - 1)<=a:=by
 induction a using Nat.strongRecOn with
 | ind a ih=>
  rw[ydp h,Nat.add_sub_cancel]
  by_cases h1:a / 1000000000=0
  ·rw[h1,yar,ybb];omega
  ·have:=ih (a / 1000000000) (by omega) h1
   have e:=ydp h1
   have h2:nd (a / 1000000000)=(nd (a / 1000000000) - 1)+1:=by omega
   rw[h2,ybp]
   omega
theorem nd_le {a n:Nat} (h:a<pw n):nd a<=n:=by
 by_cases h0:a=0
 ·subst h0;rw[yar];omega
 ·have:=yd6 h0
  have:=pw_lt (Nat.lt_of_le_of_lt this h)
  omega
theorem yl0 {a b:Nat} (h:nd a<nd b):a<b:=by
 have hb:b≠0:=by rintro rfl;rw[yar] at h;omega
 have h1:=yba a
 have h2:=yd6 hb
 have h3:pw (nd a)<=pw (nd b - 1):=pw_le (by omega)
 omega
theorem ybi {a b:Nat} (h:a<=b):nd a<=nd b:=nd_le (by have:=yba b;omega)
theorem ydu {a j:Nat} (h:nd a<=j):dg a j=0:=by
 have h1:=yba a
 have h2:=pw_le h
 unfold dg
 rw[Nat.div_eq_of_lt (by omega)]
theorem yd8 {a j:Nat} (h:nd a<=j):a / pw j=0:=by
 have h1:=yba a
 have h2:=pw_le h
 exact Nat.div_eq_of_lt (by omega)
theorem yb4 {a j:Nat} (h:nd a<=j):a % pw j=a:=by
 have h1:=yba a
 have h2:=pw_le h
 exact Nat.mod_eq_of_lt (by omega)
theorem yor {a:Nat} (h:a≠0):dg a (nd a - 1)≠0:=by
 have e:nd a=(nd a - 1)+1:=by have:=ydp h;omega
 have h1:=ybl a (nd a - 1)
 rw[<- e,yd8 (Nat.le_refl _)] at h1
 have h2:=yd6 h
 have h3:1<=a / pw (nd a - 1):=(Nat.le_div_iff_mul_le (yc8 _)).2 (by omega)
 omega
theorem yf8 {a:Nat} (h:a≠0):dg a (nd a - 1)=a / pw (nd a - 1):=by
 have e:nd a=(nd a - 1)+1:=by have:=ydp h;omega
 have h1:=ybl a (nd a - 1)
 rw[<- e,yd8 (Nat.le_refl _)] at h1
 omega
def sumTo (o:Nat->Nat):Nat->Nat
 | 0=>0
 | n+1=>sumTo o n+o n*pw n
theorem ya9 {o o':Nat->Nat}:∀ {n:Nat},(∀ j,j<n->o j=o' j)->sumTo o n=sumTo o' n
 | 0,_=>rfl
 | n+1,h=>by simp only[sumTo];rw[ya9 (fun j hj=>h j (by omega)),h n (by omega)]
theorem ydm {o:Nat->Nat}:∀ {n:Nat},(∀ j,j<n->o j<1000000000)->sumTo o n<pw n
 | 0,_=>by simp[sumTo,ybb]
 | n+1,h=>by
  have h1:=ydm (n:=n) (fun j hj=>h j (by omega))
  have h2:=h n (by omega)
  have h3:o n*pw n<=999999999*pw n:=Nat.mul_le_mul_right _ (by omega)
  simp only[sumTo];rw[ybp];omega
theorem yc2 (a:Nat):∀ n,sumTo (dg a) n=a % pw n
 | 0=>by simp[sumTo,ybb,Nat.mod_one]
 | n+1=>by simp only[sumTo];rw[yc2 a n,yck]
theorem yhj {o:Nat->Nat}:∀ {n:Nat},(∀ j,j<n->o j=0)->sumTo o n=0
 | 0,_=>rfl
 | n+1,h=>by simp only[sumTo];rw[yhj (fun j hj=>h j (by omega)),h n (by omega)];simp
theorem yj3 {o:Nat->Nat} {k:Nat}:∀ {n:Nat},k<=n->(∀ j,k<=j->j<n->o j=0)->sumTo o n=sumTo o k
 | 0,hk,_=>by have:k=0:=by omega
              subst this;rfl
 | n+1,hk,h=>by
  by_cases e:k=n+1
  ·subst e;rfl
  ·simp only[sumTo];rw[yj3 (n:=n) (by omega) (fun j h1 h2=>h j h1 (by omega)),h n (by omega) (by omega)];simp
def upd (o:Nat->Nat) (i v:Nat):Nat->Nat:=fun j=>if j=i then v else o j
theorem ycd (o:Nat->Nat) (i v:Nat):upd o i v i=v:=by simp[upd]
theorem yfd (o:Nat->Nat) {i j:Nat} (v:Nat) (h:j≠i):upd o i v j=o j:=by simp[upd,h]
theorem yam (o:Nat->Nat) {i n:Nat} (v:Nat) (h:n<=i):sumTo (upd o i v) n=sumTo o n:=ya9 fun j hj=>yfd o v (by omega)
theorem yi2 (o:Nat->Nat) {i:Nat} (v:Nat):∀ {n:Nat},i<n->sumTo (upd o i v) n+o i*pw i=sumTo o n+v*pw i
 | 0,h=>by omega
 | n+1,h=>by
  simp only[sumTo]
  by_cases e:i=n
  ·subst e;rw[ycd,yam o v (Nat.le_refl _)];omega
  ·rw[yfd o v (by omega)]
   have:=yi2 o v (n:=n) (i:=i) (by omega)
   omega
theorem yc5 {o:Nat->Nat}:∀ {n:Nat},(∀ j,j<n->o j<1000000000)->∀ j,j<n->dg (sumTo o n) j=o j
 | 0,_,_,h=>by omega
 | n+1,h,j,hj=>by
  have hs:=ydm (n:=n) (fun j hj=>h j (by omega))
  by_cases e:j=n
  ·subst e
   unfold dg
   simp only[sumTo]
   rw[Nat.add_mul_div_right _ _ (yc8 _),Nat.div_eq_of_lt hs,Nat.zero_add]
   exact Nat.mod_eq_of_lt (h j (by omega))
  ·have ih:=yc5 (n:=n) (fun j hj=>h j (by omega)) j (by omega)
   have h1:sumTo o (n+1) % pw n=sumTo o n:=by
    simp only[sumTo];rw[Nat.add_mul_mod_self_right,Nat.mod_eq_of_lt hs]
   rw[<- ih]
   -- digit j of x and of x % pw n agree for j<n
   have key:∀ x:Nat,dg (x % pw n) j=dg x j:=by
    intro x
    have hp:pw n=pw (j+1)*pw (n - (j+1)):=by rw[<- ygs];congr 1;omega
    have h2:x % pw n % pw (j+1)=x % pw (j+1):=by rw[hp];exact Nat.mod_mul_right_mod _ _ _
    have d:∀ y:Nat,dg y j=y % pw (j+1) / pw j:=by
     intro y
     rw[yck,Nat.add_mul_div_right _ _ (yc8 _),Nat.div_eq_of_lt (Nat.mod_lt _ (yc8 _)),Nat.zero_add]
    rw[d,d,h2]
   rw[<- key (sumTo o (n+1)),h1]
theorem ypy {o:Nat->Nat} {n k:Nat} (hb:∀ j,j<n->o j<1000000000) (hk:k<=n) (hz:∀ j,k<=j->j<n->o j=0) (ht:k=0\/o (k - 1)≠0):nd (sumTo o n)=k:=by
 have hb':∀ j,j<k->o j<1000000000:=fun j hj=>hb j (by omega)
 rw[yj3 hk hz]
 have h1:=nd_le (ydm hb')
 rcases ht with rfl|ht
 ·simp[sumTo,yar]
 ·by_cases hk0:k=0
  ·subst hk0;simp[sumTo,yar]
  ·rcases Nat.lt_or_ge (nd (sumTo o k)) k with h2|h2
   ·have h3:=yc5 hb' (k - 1) (by omega)
    rw[ydu (by omega)] at h3
    exact absurd h3.symm ht
   ·omega
theorem ys0 {o:Nat->Nat} {n j:Nat} (hb:∀ j,j<n->o j<1000000000) (hj:j<n):dg (sumTo o n) j=o j:=yc5 hb j hj
theorem ylu {a b i:Nat} (h:a / pw (i+1)=b / pw (i+1)) (hd:dg a i<dg b i):a<b:=by
 have h1:=ybl a i
 have h2:=ybl b i
 have h3:a / pw i<b / pw i:=by omega
 rcases Nat.lt_or_ge a b with h4|h4
 ·exact h4
 ·have:=Nat.div_le_div_right (c:=pw i) h4;omega
theorem yrh {a b i:Nat} (h:a / pw (i+1)=b / pw (i+1)) (hd:dg a i=dg b i):a / pw i=b / pw i:=by
 rw[ybl a i,ybl b i,h,hd]
theorem ys4 {a b:Nat} (h:a / pw 0=b / pw 0):a=b:=by simpa[ybb] using h
theorem yl7 {s a b i c c' o:Nat} (h:s+c*pw i=a % pw i+b % pw i) (ho:o+1000000000*c'=dg a i+dg b i+c) :
  s+o*pw i+c'*pw (i+1)=a % pw (i+1)+b % pw (i+1):=by
 rw[yck,yck,ybp]
 have:(o+1000000000*c')*pw i=(dg a i+dg b i+c)*pw i:=by rw[ho]
 simp only[Nat.add_mul] at this
 have e:1000000000*c'*pw i=c'*(1000000000*pw i):=by rw[Nat.mul_comm 1000000000 c',Nat.mul_assoc]
 omega
theorem yf3 {s a b i c c' o:Nat} (h:s+b % pw i=a % pw i+c*pw i) (ho:o+dg b i+c=dg a i+1000000000*c') :
  s+o*pw i+b % pw (i+1)=a % pw (i+1)+c'*pw (i+1):=by
 rw[yck,yck,ybp]
 have:(o+dg b i+c)*pw i=(dg a i+1000000000*c')*pw i:=by rw[ho]
 simp only[Nat.add_mul] at this
 have e:1000000000*c'*pw i=c'*(1000000000*pw i):=by rw[Nat.mul_comm 1000000000 c',Nat.mul_assoc]
 omega
theorem yhq {s a n i c c' o:Nat} (h:s+c*pw i=a % pw i*n) (ho:o+1000000000*c'=dg a i*n+c) :
  s+o*pw i+c'*pw (i+1)=a % pw (i+1)*n:=by
 rw[yck,ybp]
 have:(o+1000000000*c')*pw i=(dg a i*n+c)*pw i:=by rw[ho]
 simp only[Nat.add_mul] at this ⊢
 have e:1000000000*c'*pw i=c'*(1000000000*pw i):=by rw[Nat.mul_comm 1000000000 c',Nat.mul_assoc]
 have e2:dg a i*n*pw i=dg a i*pw i*n:=Nat.mul_right_comm _ _ _
 omega
theorem yqj {s s' T b i j x c c' o o0:Nat} (h:s+c*pw (i+j)=T+x*pw i*(b % pw j)) (hs:s'+o0*pw (i+j)=s+o*pw (i+j))
  (ho:o+1000000000*c'=x*dg b j+o0+c) :
  s'+c'*pw (i+(j+1))=T+x*pw i*(b % pw (j+1)):=by
 rw[yck,<- Nat.add_assoc i j 1,ybp]
 have h1:(o+1000000000*c')*pw (i+j)=(x*dg b j+o0+c)*pw (i+j):=by rw[ho]
 simp only[Nat.add_mul,Nat.mul_add] at h1 ⊢
 have e:1000000000*c'*pw (i+j)=c'*(1000000000*pw (i+j)):=by rw[Nat.mul_comm 1000000000 c',Nat.mul_assoc]
 have e2:x*dg b j*pw (i+j)=x*pw i*(dg b j*pw j):=by rw[ygs];ac_rfl
 omega
theorem ytp {a b i:Nat}:a % pw i*b+dg a i*pw i*b=a % pw (i+1)*b:=by rw[yck,Nat.add_mul]
theorem ynf {a n i r:Nat} (hn:0<n) (h:r=a / pw (i+1) % n) :
  (r*1000000000+dg a i) / n % 1000000000=dg (a / n) i/\(r*1000000000+dg a i) / n<1000000000/\(r*1000000000+dg a i) % n=a / pw i % n:=by
 have e:=ybl a i
 have hr:r<n:=by rw[h];exact Nat.mod_lt _ hn
 have hd:=dg_lt a i
 have q:a / pw (i+1)=n*(a / pw (i+1) / n)+r:=by rw[h];exact(Nat.div_add_mod _ _).symm
 generalize a / pw (i+1) / n=t at q
 have e2:a / pw i=r*1000000000+dg a i+n*(1000000000*t):=by
  rw[e,q,Nat.mul_add,<- Nat.mul_assoc,Nat.mul_comm 1000000000 n,Nat.mul_assoc];omega
 have hlt:(r*1000000000+dg a i) / n<1000000000:=by
  rw[Nat.div_lt_iff_lt_mul hn]
  have:(r+1)*1000000000<=n*1000000000:=Nat.mul_le_mul_right _ hr
  omega
 refine⟨?_,hlt,?_⟩
 ·show _=a / n / pw i % 1000000000
  rw[Nat.div_div_eq_div_mul,Nat.mul_comm n,<- Nat.div_div_eq_div_mul,e2,Nat.add_mul_div_left _ _ hn,Nat.add_mul_mod_self_left]
 ·rw[e2,Nat.add_mul_mod_self_left]
theorem yay (a b:Nat):nd (a*b)<=nd a+nd b:=by
 refine nd_le ?_
 rw[ygs]
 by_cases hb:b=0
 ·subst hb;rw[Nat.mul_zero];exact Nat.mul_pos (yc8 _) (yc8 _)
 ·exact Nat.mul_lt_mul'' (yba a) (yba b)
theorem ygw (a b:Nat):nd (a+b)<=max (nd a) (nd b)+1:=by
 refine nd_le ?_
 have h1:=yba a
 have h2:=yba b
 have h3:pw (nd a)<=pw (max (nd a) (nd b)):=pw_le (Nat.le_max_left _ _)
 have h4:pw (nd b)<=pw (max (nd a) (nd b)):=pw_le (Nat.le_max_right _ _)
 rw[ybp]
 omega
theorem yr3 {a:Nat} (h:a<1000000000):nd a<=1:=nd_le (by rw[ybp,ybb];omega)
theorem yi0 {a:Nat} (h:nd a<=1):a<1000000000:=by
 have h1:=yba a
 have h2:pw (nd a)<=pw 1:=pw_le h
 rw[ybp,ybb] at h2
 omega
theorem ygi {a:Nat} (h:a<1000000000):dg a 0=a:=by unfold dg;rw[ybb,Nat.div_one];exact Nat.mod_eq_of_lt h
theorem yrx {b f:Nat} (hb:b≠0) (hf:f=1000000000 / (dg b (nd b - 1)+1)):1<=f/\f<=500000000/\b*f<pw (nd b):=by
 have ht:=dg_lt b (nd b - 1)
 have h0:=yor hb
 have hn:=ydp hb
 have e:=yf8 hb
 generalize dg b (nd b - 1)=t at *
 have h1:b<(t+1)*pw (nd b - 1):=by
  have:=Nat.lt_div_mul_add (a:=b) (yc8 (nd b - 1))
  rw[Nat.add_mul,e];omega
 have h2:f*(t+1)<=1000000000:=by rw[hf];exact Nat.div_mul_le_self _ _
 have hp:pw (nd b)=1000000000*pw (nd b - 1):=by rw[<- ybp];congr 1;omega
 refine⟨?_,?_,?_⟩
 ·rw[hf];exact(Nat.le_div_iff_mul_le (by omega)).2 (by omega)
 ·rw[hf]
  exact Nat.le_trans (Nat.div_le_div_left (show 2<=t+1 by omega) (by decide)) (by decide)
 ·have hf1:1<=f:=by rw[hf];exact(Nat.le_div_iff_mul_le (by omega)).2 (by omega)
  calc b*f<(t+1)*pw (nd b - 1)*f:=(Nat.mul_lt_mul_right hf1).2 h1
   _=f*(t+1)*pw (nd b - 1):=by ac_rfl
   _<=1000000000*pw (nd b - 1):=Nat.mul_le_mul_right _ h2
   _=pw (nd b):=hp.symm
theorem yqm {x v j u:Nat} (hv:v≠0) (hu:u=x % (v*pw (j+1))) :
  u / pw j / v=dg (x / v) j/\u - v*(u / pw j / v)*pw j=x % (v*pw j)/\v*(u / pw j / v)*pw j<=u:=by
 have hp:=yc8 j
 have hv0:0<v:=by omega
 have e1:v*pw (j+1)=v*pw j*1000000000:=by rw[ybp];ac_rfl
 have e2:u / pw j / v=u / (v*pw j):=by rw[Nat.div_div_eq_div_mul,Nat.mul_comm (pw j)]
 have e3:u / (v*pw j)=x / (v*pw j) % 1000000000:=by rw[hu,e1];exact Nat.mod_mul_right_div_self _ _ _
 have e4:u % (v*pw j)=x % (v*pw j):=by rw[hu,e1];exact Nat.mod_mul_right_mod _ _ _
 have e5:=Nat.div_add_mod u (v*pw j)
 have e6:v*(u / (v*pw j))*pw j=v*pw j*(u / (v*pw j)):=by ac_rfl
 refine⟨?_,?_,?_⟩
 ·rw[e2,e3];unfold dg;rw[Nat.div_div_eq_div_mul]
 ·rw[e2,e6];omega
 ·rw[e2,e6];omega
theorem yrj {u v n j top:Nat} (hn:nd v=n+1) (ht:top=dg v n):u / pw j / v<=u / pw (j+n) / top:=by
 have hv:v≠0:=by rintro rfl;rw[yar] at hn;omega
 have h0:=yor hv
 have h1:=yf8 hv
 rw[hn] at h0 h1
 simp only[Nat.add_sub_cancel] at h0 h1
 rw[<- ht] at h0 h1
 have h2:top*pw n<=v:=by rw[h1];exact Nat.div_mul_le_self _ _
 rw[Nat.div_div_eq_div_mul,Nat.div_div_eq_div_mul]
 refine Nat.div_le_div_left ?_ (Nat.mul_pos (yc8 _) (by omega))
 rw[ygs,Nat.mul_assoc,Nat.mul_comm (pw n)]
 exact Nat.mul_le_mul_left _ h2
theorem ypk {u i:Nat} (h:u<pw (i+2)):dg u (i+1)*1000000000+dg u i=u / pw i:=by
 have h1:=ybl u i
 have h2:=ybl u (i+1)
 have h3:u / pw (i+1+1)=0:=Nat.div_eq_of_lt h
 omega
theorem ysu {x v j u:Nat} (hv:v≠0) (hu:u=x % (v*pw (j+1))):u<v*pw (j+1):=by
 rw[hu];exact Nat.mod_lt _ (Nat.mul_pos (by omega) (yc8 _))
theorem ysd {v j u:Nat} (h:u<v*pw j):u<pw (nd v+j):=by
 rw[ygs]
 exact Nat.lt_of_lt_of_le h (Nat.mul_le_mul_right _ (Nat.le_of_lt (yba v)))
theorem yqz {x v n m:Nat} (hv:v≠0) (hn:nd v=n+1) (h:x<pw (n+m)):x<v*pw m:=by
 have h1:=yd6 hv
 rw[hn,Nat.add_sub_cancel] at h1
 rw[ygs] at h
 exact Nat.lt_of_lt_of_le h (Nat.mul_le_mul_right _ h1)
theorem ysw {a b f:Nat} (hf:1<=f):a*f / (b*f)=a / b/\a*f % (b*f) / f=a % b:=by
 refine⟨Nat.mul_div_mul_right _ _ (by omega),?_⟩
 rw[Nat.mul_mod_mul_right,Nat.mul_div_cancel _ (by omega)]
theorem yts {x v m:Nat} (h:x<v*pw m):x / v<pw m:=Nat.div_lt_of_lt_mul h
end Go.Proofs.YtajmjllhdcdkmaaGreatDoor.Dg
namespace Go.Proofs.YtajmjllhdcdkmaaGreatDoor.Q
def sg (neg:Bool) (n:Nat):Int:=if neg=true then -(n:Int) else (n:Int)
def ngt (q:Rat):Bool:=decide (q.num<0)
def top (q:Rat):Nat:=q.num.natAbs
theorem yon (b:Bool) (n:Nat):(sg b n).natAbs=n:=by unfold sg;split<;>simp
theorem yen (q:Rat):q.num=sg (ngt q) (top q):=by
 unfold sg ngt top
 by_cases h:q.num<0
 ·simp[h];omega
 ·simp[h];omega
theorem yf5 {q:Rat}:top q=0 ↔ q=0:=by
 unfold top
 rw[Int.natAbs_eq_zero]
 exact Rat.num_eq_zero
theorem yk9 {q:Rat} (h:ngt q=true):top q≠0:=by
 unfold ngt at h;unfold top
 have:=of_decide_eq_true h
 omega
theorem coprime (q:Rat):Nat.gcd (top q) q.den=1:=q.reduced
theorem ygv (b:Bool) (d:Nat):mkRat (sg b 0) d=0:=by
 have:sg b 0=0:=by unfold sg;split<;>rfl
 rw[this];exact Rat.zero_mkRat d
theorem yhy {b:Bool} {n d:Nat} (hd:d≠0):top (mkRat (sg b n) d)=n / Nat.gcd n d:=by
 unfold top
 rw[Rat.num_mkRat,if_neg hd,yon,Nat.gcd_comm d n]
 rcases Nat.eq_zero_or_pos n with h0|h0
 ·subst h0
  have:sg b 0=0:=by unfold sg;split<;>rfl
  rw[this];simp
 ·have hg:0<Nat.gcd n d:=Nat.gcd_pos_of_pos_left _ h0
  unfold sg
  split
  ·rw[Int.neg_ediv_of_dvd (Int.natCast_dvd_natCast.2 (Nat.gcd_dvd_left n d)),Int.natAbs_neg];rfl
  ·rfl
theorem yir {b:Bool} {n d:Nat} (hd:d≠0):(mkRat (sg b n) d).den=d / Nat.gcd n d:=by
 rw[Rat.den_mkRat,if_neg hd,yon,Nat.gcd_comm]
theorem yij {b:Bool} {n d:Nat} (hn:n≠0) (hd:d≠0):ngt (mkRat (sg b n) d)=b:=by
 unfold ngt
 rw[Rat.num_mkRat,if_neg hd,yon,Nat.gcd_comm]
 have hg:0<Nat.gcd n d:=Nat.gcd_pos_of_pos_left _ (Nat.pos_of_ne_zero hn)
 have h1:0<n / Nat.gcd n d:=Nat.div_pos (Nat.le_of_dvd (Nat.pos_of_ne_zero hn) (Nat.gcd_dvd_left n d)) hg
 have e:((n:Int) / (Nat.gcd n d:Int))=((n / Nat.gcd n d:Nat):Int):=rfl
 cases b
 ·have e1:sg false n=(n:Int):=rfl
  rw[decide_eq_false_iff_not,e1,e];omega
 ·have e1:sg true n = -(n:Int):=rfl
  rw[decide_eq_true_iff,e1,Int.neg_ediv_of_dvd (Int.natCast_dvd_natCast.2 (Nat.gcd_dvd_left n d)),e]
  omega
theorem yso (a b:Bool) (m n:Nat):sg a m*sg b n=sg (a != b) (m*n):=by
 cases a<;>cases b<;>simp[sg,Int.natCast_mul,Int.neg_mul,Int.mul_neg]
theorem ylm (a:Bool) (m n:Nat):sg a m*(n:Int)=sg a (m*n):=by cases a<;>simp[sg,Int.natCast_mul,Int.neg_mul]
theorem add_same {a b:Rat} (h:ngt a=ngt b):a+b=mkRat (sg (ngt a) (top a*b.den+top b*a.den)) (a.den*b.den):=by
 rw[Rat.add_def',yen a,yen b,<- h,ylm,ylm]
 congr 1
 cases ngt a<;>simp[sg,Int.natCast_add];omega
theorem add_ge {a b:Rat} (h:ngt a≠ngt b) (hl:top b*a.den<=top a*b.den):a+b=mkRat (sg (ngt a) (top a*b.den - top b*a.den)) (a.den*b.den):=by
 rw[Rat.add_def',yen a,yen b,ylm,ylm]
 congr 1
 generalize top a*b.den=x at *
 generalize top b*a.den=y at *
 cases ha:ngt a<;>cases hb:ngt b<;>simp[ha,hb] at h<;>simp[sg]<;>omega
theorem add_lt {a b:Rat} (h:ngt a≠ngt b) (hl:top a*b.den<=top b*a.den):a+b=mkRat (sg (ngt b) (top b*a.den - top a*b.den)) (a.den*b.den):=by
 rw[Rat.add_comm,add_ge (fun e=>h e.symm) hl,Nat.mul_comm b.den]
theorem ysp (a b:Rat):a*b=mkRat (sg (ngt a != ngt b) (top a*top b)) (a.den*b.den):=by
 rw[Rat.mul_def',yen a,yen b,yso]
theorem inv_is {b:Rat} (hb:b≠0):b⁻¹=mkRat (sg (ngt b) b.den) (top b):=by
 have h0:top b≠0:=fun e=>hb (yf5.1 e)
 rw[Rat.inv_def]
 have hn:=yen b
 cases h:ngt b
 ·rw[h] at hn
  simp only[sg,Bool.false_eq_true,if_false] at hn ⊢
  rw[hn,Rat.divInt_ofNat]
 ·rw[h] at hn
  simp only[sg,if_true] at hn ⊢
  rw[hn,Rat.divInt_neg',Rat.divInt_ofNat]
theorem ysk {a b:Rat} (hb:b≠0):a / b=mkRat (sg (ngt a != ngt b) (top a*b.den)) (a.den*top b):=by
 rw[Rat.div_def,inv_is hb]
 conv=>lhs;rw[<- Rat.mkRat_self a]
 rw[Rat.mkRat_mul_mkRat,yen a,yso]
theorem ytv (a:Rat):ngt (-a)=(!ngt a&&decide (top a≠0)):=by
 unfold ngt top
 rw[Rat.neg_num]
 by_cases h:a.num<0
 ·simp[h];omega
 ·by_cases h0:a.num=0
  ·simp[h0]
  ·have:0<a.num:=by omega
   simp[h,h0];omega
theorem yo6 (a:Rat):top (-a)=top a:=by unfold top;rw[Rat.neg_num,Int.natAbs_neg]
def sign (q:Rat):Int:=if top q=0 then 0 else if ngt q=true then -1 else 1
theorem yru {q:Rat}:0<sign q ↔ 0<q:=by
 have h1:0<q ↔ 0<q.num:=by
  rw[Rat.lt_iff];simp
 rw[h1]
 unfold sign ngt top
 split
 ·omega
 ·split
  ·rename_i h;have:=of_decide_eq_true h;omega
  ·rename_i h;have:¬q.num<0:=by simpa using h
   omega
end Go.Proofs.YtajmjllhdcdkmaaGreatDoor.Q
namespace Go.Proofs.YtajmjllhdcdkmaaGreatDoor.Dg
def win (o:Nat->Nat) (j:Nat):Nat->Nat:=fun i=>o (j+i)
theorem yb6 (o:Nat->Nat) (j:Nat):∀ m,sumTo o (j+m)=sumTo o j+pw j*sumTo (win o j) m
 | 0=>by simp[sumTo]
 | m+1=>by
  show sumTo o (j+m)+o (j+m)*pw (j+m)=sumTo o j+pw j*(sumTo (win o j) m+win o j m*pw m)
  rw[yb6 o j m,Nat.mul_add,ygs]
  have:o (j+m)*(pw j*pw m)=pw j*(win o j m*pw m):=by unfold win;ac_rfl
  omega
theorem yix {o:Nat->Nat} {n p:Nat} (hb:∀ j,j<n->o j<1000000000) (hp:p<=n):sumTo o p=sumTo o n % pw p:=by
 rw[<- yc2 (sumTo o n) p]
 exact ya9 fun j hj=>(yc5 hb j (by omega)).symm
theorem ys8 {o:Nat->Nat} {n j m:Nat} (hb:∀ j,j<n->o j<1000000000) (hn:j+m<=n) (hs:sumTo o n<pw (j+m)):sumTo (win o j) m=sumTo o n / pw j:=by
 have h1:=yix hb hn
 rw[Nat.mod_eq_of_lt hs,yb6] at h1
 have h2:sumTo o j<pw j:=ydm fun i hi=>hb i (by omega)
 rw[<- h1,Nat.add_mul_div_left _ _ (yc8 _),Nat.div_eq_of_lt h2,Nat.zero_add]
theorem yhr {o o':Nat->Nat} {n j m d:Nat} (hn:j+m<=n) (ho:∀ i,i<n->(i<j\/j+m<=i)->o' i=o i) (hd:d<=sumTo (win o j) m) (hs:sumTo (win o' j) m=sumTo (win o j) m - d) :
  sumTo o' n=sumTo o n - d*pw j:=by
 obtain⟨r,rfl⟩:∃ r,n=j+m+r:=⟨n - (j+m),by omega⟩
 have e1:=yb6 o (j+m) r
 have e2:=yb6 o' (j+m) r
 have e3:=yb6 o j m
 have e4:=yb6 o' j m
 have c1:sumTo o' j=sumTo o j:=ya9 fun i hi=>ho i (by omega) (.inl hi)
 have c2:sumTo (win o' (j+m)) r=sumTo (win o (j+m)) r:=ya9 fun i hi=>by unfold win;exact ho _ (by omega) (.inr (by omega))
 have c3:pw j*sumTo (win o' j) m=pw j*sumTo (win o j) m - d*pw j:=by rw[hs,Nat.mul_sub,Nat.mul_comm d]
 have c4:d*pw j<=pw j*sumTo (win o j) m:=by rw[Nat.mul_comm d];exact Nat.mul_le_mul_left _ hd
 rw[e1,e2,e3,e4,c1,c2,c3]
 omega
theorem yof {X v s:Nat} (hv:v≠0):v*s<=X ↔ s<=X / v:=by
 rw[Nat.le_div_iff_mul_le (by omega),Nat.mul_comm]
theorem ynd {X v s:Nat} (hv:v≠0) (h:s=X / v):nd (X - v*s)<=nd v:=by
 subst h
 refine ybi (Nat.le_of_lt ?_)
 have h1:=Nat.div_add_mod X v
 have h2:=Nat.mod_lt X (Nat.pos_of_ne_zero hv)
 omega
end Go.Proofs.YtajmjllhdcdkmaaGreatDoor.Dg
namespace Go.Proofs.YtajmjllhdcdkmaaGreatDoor.Q
open Go.Proofs.YtajmjllhdcdkmaaGreatDoor.Dg
def sz (q:Rat):Nat:=max (nd (top q)) (nd q.den)
theorem ycg (q:Rat):nd (top q)<=sz q:=Nat.le_max_left _ _
theorem yci (q:Rat):nd q.den<=sz q:=Nat.le_max_right _ _
theorem yg4 {b:Bool} {n d:Nat} (hd:d≠0):sz (mkRat (sg b n) d)<=max (nd n) (nd d):=by
 unfold sz
 rw[yhy hd,yir hd]
 have h1:nd (n / Nat.gcd n d)<=nd n:=ybi (Nat.div_le_self _ _)
 have h2:nd (d / Nat.gcd n d)<=nd d:=ybi (Nat.div_le_self _ _)
 omega
theorem yp8 (a b:Rat):sz (a*b)<=sz a+sz b:=by
 have hd:a.den*b.den≠0:=Nat.mul_ne_zero a.den_nz b.den_nz
 have t1:=ycg a;have t2:=yci a;have t3:=ycg b;have t4:=yci b
 have m1:=yay (top a) (top b)
 have m3:=yay a.den b.den
 rw[ysp]
 have h1:=yg4 (b:=ngt a != ngt b) (n:=top a*top b) hd
 omega
theorem sz_div {a b:Rat} (hb:b≠0):sz (a / b)<=sz a+sz b:=by
 have hd:a.den*top b≠0:=Nat.mul_ne_zero a.den_nz (fun e=>hb (yf5.1 e))
 have t1:=ycg a;have t2:=yci a;have t3:=ycg b;have t4:=yci b
 have m1:=yay (top a) b.den
 have m3:=yay a.den (top b)
 rw[ysk hb]
 have h1:=yg4 (b:=ngt a != ngt b) (n:=top a*b.den) hd
 omega
theorem sz_neg (a:Rat):sz (-a)=sz a:=by unfold sz;rw[yo6,Rat.neg_den]
end Go.Proofs.YtajmjllhdcdkmaaGreatDoor.Q
