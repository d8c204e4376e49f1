import Derived.Test.YtajmjllhdcdkmaaGreatDoorZ
import Derived.Test.YtajmjllhdcdkmaaGreatDoorG15
import Derived.Test.YtajmjllhdcdkmaaGreatDoorG13
set_option maxRecDepth 100000
set_option maxHeartbeats 3200000
namespace Go.Proofs.YtajmjllhdcdkmaaGreatDoor
open Go.RowKit Dg Q Num Str
theorem yj6 {a b:List UInt8} (h:(47:UInt8) ∉ b):slashL (a++47::b)=a.length:=by
 unfold slashL
 have hb:∀ x ∈ b.reverse,(x != 47)=true:=fun x hx=>by
  have:x≠47:=fun e=>h (by rw[<- e];exact List.mem_reverse.1 hx)
  simpa using this
 have e:(a++47::b).reverse=b.reverse++47::a.reverse:=by simp
 rw[e,List.takeWhile_append_of_pos hb,List.takeWhile_cons_of_neg (by decide)]
 simp
 omega
theorem lastslash (S:ByteArray) (h:(47:UInt8) ∈ bl S):Lib.lastIndexByte S 47=((slashL (bl S):Nat):Int)/\slashL (bl S)<S.size:=by
 have at_:∀ j (hj:j<S.size),S.data[j]! = S[j]:=fun j hj=>by
  have:j<S.data.size:=hj
  rw[getElem!_pos S.data j this];rfl
 unfold Lib.lastIndexByte
 rcases Lib.lastIdx_spec S 47 S.size with ⟨_,hn⟩|⟨i,hi,he,hc,hn⟩
 ·obtain⟨j,hj,hv⟩:=List.mem_iff_getElem.1 h
  have hj':j<S.size:=by rw[yag] at hj;exact hj
  have h1:=bl_at S j hj'
  rw[List.getElem?_eq_getElem hj,hv] at h1
  injection h1 with h1
  exact absurd (by rw[at_ j hj',<- h1];rfl) (hn j hj')
 ·have hci:S[i]=47:=by
   rw[at_ i hi] at hc
   exact(yau S[i] 47).1 hc
  have hl:bl S=(bl S).take i++47::(bl S).drop (i+1):=by
   have hlt:i<(bl S).length:=by rw[yag];exact hi
   have h1:=bl_at S i hi
   rw[List.getElem?_eq_getElem hlt,hci] at h1
   injection h1 with h1
   rw[<- h1,<- List.drop_eq_getElem_cons hlt,List.take_append_drop]
  have hb:(47:UInt8) ∉ (bl S).drop (i+1):=fun hm=>by
   obtain⟨j,hj,hv⟩:=List.mem_iff_getElem.1 hm
   rw[List.getElem_drop] at hv
   have hj':i+1+j<S.size:=by rw[List.length_drop,yag] at hj;omega
   have h1:=bl_at S (i+1+j) hj'
   rw[List.getElem?_eq_getElem (by rw[yag];exact hj'),hv] at h1
   injection h1 with h1
   exact hn (i+1+j) (by omega) hj' (by rw[at_ _ hj',<- h1];rfl)
  have hs:slashL (bl S)=i:=by
   rw[hl,yj6 hb,List.length_take,yag]
   omega
  rw[he,hs]
  exact⟨rfl,hi⟩
def ParR (o:Option (List UInt8)) (w:World) (e:Ending) (w':World):Prop:=Below w.heap.size w w'/\match o with
 | none=>e=.returned (.tuple #[.string ⟨#[]⟩,.bool false])
 | some up=>∃ T:ByteArray,bl T=up/\e=.returned (.tuple #[.string T,.bool true])
theorem yne {l up:List UInt8} (h:parentB l=some up):up.length<=l.length:=by
 unfold parentB at h
 split at h
 ·cases h
 ·injection h with h
  rw[<- h]
  rw[List.length_take]
  omega
theorem yfm (S:ByteArray) (hs:S.size<=4000000000) (w:World) (hw:Ws w):Calls Tryz.prog 5 #[.string S] w (ParR (parentB (bl S)) w):=by
 have h47:(S.toList==[47])=decide (bl S=[47]):=eqS S [47]
 have VP:=fun w' (hb:Below w.heap.size w w')=>yoh S hs w' (hw.up hb)
 have LI:=fun w'=>Tryz.strings_LastIndexByte S 47 (by omega) w'
 by_cases hr:bl S=[47]
 ·have hx:parentB (bl S)=none:=by unfold parentB;rw[if_pos (.inl hr)]
  rw[hx]
  rw[decide_eq_true hr] at h47
  clear hr hx hw VP LI
  go_enter Tryz.func5,Tryz.ntmps5
  go_wp2
  go_ret2
  exact⟨Below.refl _ _,rfl⟩
 ·rw[decide_eq_false hr] at h47
  have VP:=VP w (Below.refl _ _)
  cases hp:pathB (bl S)
  ·have hx:parentB (bl S)=none:=by unfold parentB;rw[if_pos (.inr hp)]
   rw[hx]
   rw[hp] at VP
   clear hr hx hw LI hp
   go_enter Tryz.func5,Tryz.ntmps5
   go_wp2_with (go_at_call 11;(with_reducible refine VP.mono ?_);rintro e w1 ⟨rfl,hb⟩;have b1:=zh hb;clear hb)
   go_ret2
   exact⟨b1.out,rfl⟩
  ·have hx:parentB (bl S)=some ((bl S).take (max (slashL (bl S)) 1)):=by unfold parentB;rw[if_neg (fun h=>by rcases h with h|h;exact hr h;rw[hp] at h;cases h)]
   rw[hx]
   rw[hp] at VP
   have hm:(47:UInt8) ∈ bl S:=by
    unfold pathB at hp
    rw[show (bl S==[47])=false by rw[beq_eq_false_iff_ne];exact hr,Bool.false_or,Bool.and_eq_true] at hp
    exact List.mem_of_mem_head? (by rw[eq_of_beq hp.1];rfl)
   obtain⟨hl1,hl2⟩:=lastslash S hm
   rw[hl1] at LI
   have LI:=fun w'=>(LI w').mono fun e w2 h=>(show e=.returned (.int .i64 ((slashL (bl S):Nat):Int))/\w'=w2 from⟨h.1,h.2.symm⟩)
   obtain⟨i,hi⟩:∃ i,slashL (bl S)=i:=⟨_,rfl⟩
   rw[hi] at LI hl2
   obtain⟨j,hj⟩:∃ j,max i 1=j:=⟨_,rfl⟩
   have ej:max (i:Int) 1=(j:Int):=by omega
   have jb:(j:Int)<=(S.size:Int):=by omega
   obtain⟨T,hT⟩:∃ T,S.extract 0 j=T:=⟨_,rfl⟩
   have HT:=zh (show bl T=(bl S).take (max (slashL (bl S)) 1) by rw[<- hT,ye9,hi,hj])
   clear hr hx hw hp hm hl1 hi hj hl2
   go_enter Tryz.func5,Tryz.ntmps5
   go_wp2_with (first
    | (go_at_call 12;(with_reducible refine(LI _).mono ?_);rintro e w2 ⟨rfl,rfl⟩)
    | (go_at_call 11;(with_reducible refine VP.mono ?_);rintro e w1 ⟨rfl,hb⟩;have b1:=zh hb;clear hb))
   go_ret2
   exact⟨b1.out,T,HT.out,rfl⟩
end Go.Proofs.YtajmjllhdcdkmaaGreatDoor
