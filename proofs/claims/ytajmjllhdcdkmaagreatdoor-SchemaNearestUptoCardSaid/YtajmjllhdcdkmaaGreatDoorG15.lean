import Derived.Test.YtajmjllhdcdkmaaGreatDoorZ
import Derived.Test.YtajmjllhdcdkmaaGreatDoorG11
import Derived.Test.YtajmjllhdcdkmaaGreatDoorG14
import Derived.Test.YtajmjllhdcdkmaaGreatDoorG9
set_option maxRecDepth 100000
set_option maxHeartbeats 6400000
namespace Go.Proofs.YtajmjllhdcdkmaaGreatDoor
open Go.RowKit Dg Q Num Str
def Ws (w:World):Prop:=Wf w/\0<w.heap.size/\∃ mx,w.cell? ⟨0,0,none⟩=some (.int .i64 mx)
theorem Ws.up {w w':World} (h:Ws w) (hb:Below w.heap.size w w'):Ws w':=by
 obtain⟨h1,h2,mx,h3⟩:=h
 exact⟨h1.up hb,Nat.lt_of_lt_of_le h2 hb.size,mx,(hb.cell (p:=⟨0,0,none⟩) h2).trans h3⟩
theorem yju (S:ByteArray) (w:World):Calls Tryz.prog 34 #[.string S,.string ⟨#[47]⟩] w fun e w'=>
  e=.returned (.tuple #[.string ⟨(if (bl S).head?=some 47 then (bl S).tail else bl S).toArray⟩,.bool (decide ((bl S).head?=some 47))])/\w=w':=by
 refine(Tryz.strings_CutPrefix S ⟨#[47]⟩ w).mono ?_
 rintro e w' ⟨rfl,rfl⟩
 have h1:Lib.hasPrefix (bl S) [47]=decide ((bl S).head?=some 47):=by
  cases h:bl S with
  | nil=>rfl
  | cons x l=>
   unfold Lib.hasPrefix
   show (47==x&&true)=decide (some x=some 47)
   rw[Bool.and_true,Bool.eq_iff_iff,beq_iff_eq,decide_eq_true_iff]
   exact⟨fun e=>by rw[e],fun e=>by injection e with e;exact e.symm⟩
 have h2:Lib.trimPrefix (bl S) [47]=if (bl S).head?=some 47 then (bl S).tail else bl S:=by
  unfold Lib.trimPrefix
  rw[h1]
  by_cases h:(bl S).head?=some 47
  ·rw[if_pos h,decide_eq_true h,if_pos rfl];simp
  ·rw[if_neg h,decide_eq_false h];rfl
 refine⟨?_,rfl⟩
 rw[<- h1,<- h2];rfl
theorem yjc (S:ByteArray):∃ ps:List ByteArray,Lib.splitB ⟨#[47]⟩ 0 (Lib.countB S ⟨#[47]⟩) S=ps/\Lib.countB S ⟨#[47]⟩+1=ps.length/\ps.map bl=spl 47 (bl S):=by
 obtain⟨h1,h2⟩:=yj8 47 (bl S).length (bl S) (Nat.le_refl _)
 have hc:Lib.countB S ⟨#[47]⟩=Lib.count (bl S) [47]:=rfl
 have hd:=Lib.splitB_data ⟨#[47]⟩ 0 (Lib.countB S ⟨#[47]⟩) S
 have hm:(Lib.splitB ⟨#[47]⟩ 0 (Lib.countB S ⟨#[47]⟩) S).map bl=spl 47 (bl S):=by
  show (Lib.splitB ⟨#[47]⟩ 0 (Lib.countB S ⟨#[47]⟩) S).map (·.data.toList)=_
  rw[hd,hc];exact h1
 refine⟨_,rfl,?_,hm⟩
 have hz:=congrArg List.length hm
 rw[List.length_map] at hz
 rw[hz,hc]
 exact h2
theorem ysi {c:UInt8}:∀ {ps:List (List UInt8)} {l:List UInt8},spl c l=ps->∀ x ∈ ps,x.length<=l.length
 | [],l,h,x,hx=>by simp at hx
 | a::ps,l,h,x,hx=>by
  obtain⟨_,h2⟩:=ylv h
  rcases List.mem_cons.1 hx with rfl|hx
  ·rcases h2 with ⟨_,rfl⟩|⟨b,rfl,_⟩
   ·exact Nat.le_refl _
   ·simp
  ·rcases h2 with ⟨rfl,_⟩|⟨b,rfl,hb⟩
   ·simp at hx
   ·have:=ysi hb x hx
    simp;omega
theorem yoh (S:ByteArray) (hs:S.size<=4000000000) (w:World) (hw:Ws w):Calls Tryz.prog 11 #[.string S] w fun e w'=>e=.returned (.bool (pathB (bl S)))/\Below w.heap.size w w':=by
 have h47:(S.toList==[47])=decide (bl S=[47]):=eqS S [47]
 by_cases hr:bl S=[47]
 ·have hx:pathB (bl S)=true:=by rw[hr];rfl
  rw[hx]
  rw[decide_eq_true hr] at h47
  clear hr hx hw
  go_enter Tryz.func11,Tryz.ntmps11
  go_wp2
  go_ret
  exact⟨rfl,Below.refl _ _⟩
 ·rw[decide_eq_false hr] at h47
  have CU:=fun w'=>yju S w'
  obtain⟨T,hT⟩:∃ T:ByteArray,(⟨(if (bl S).head?=some 47 then (bl S).tail else bl S).toArray⟩:ByteArray)=T:=⟨_,rfl⟩
  have hTb:bl T=if (bl S).head?=some 47 then (bl S).tail else bl S:=by rw[<- hT];exact bl_mk _
  rw[hT] at CU
  have hTs:T.size<=4000000000:=by
   rw[<- yag,hTb]
   split
   ·rw[List.length_tail,yag];omega
   ·rw[yag];exact hs
  obtain⟨ps,hp1,hp2,hp3⟩:=yjc T
  obtain⟨mx,hmx⟩:=hw.2.2
  have SP:=Tryz.strings_Split T ⟨#[47]⟩ mx w (by omega) hmx (by decide)
  rw[hp1,hp2] at SP
  have hsz:∀ x ∈ ps,x.size<=9223372036854775807:=fun x hx=>by
   have:=ysi rfl (bl x) (by rw[<- hp3];exact List.mem_map_of_mem hx)
   rw[yag,yag] at this
   omega
  have hpl:ps.length<=4000000002:=by
   have:=Lib.count_le (bl T) [47]
   have hc:Lib.countB T ⟨#[47]⟩=Lib.count (bl T) [47]:=rfl
   rw[yag] at this
   rw[hc] at hp2
   omega
  have hX:pathB (bl S)=(decide ((bl S).head?=some 47)&&(ps.map bl).all nameB&&decide (ps.length<=4)):=by
   unfold pathB
   rw[show (bl S==[47])=false by rw[beq_eq_false_iff_ne];exact hr,Bool.false_or]
   by_cases h:(bl S).head?=some 47
   ·rw[if_pos h] at hTb
    rw[decide_eq_true h,hp3,hTb,Bool.true_and,show ((bl S).head?==some 47)=true by rw[h];rfl,Bool.true_and]
    congr 2
    rw[<- hTb,<- hp3,List.length_map]
   ·rw[decide_eq_false h,show ((bl S).head?==some 47)=false by rw[beq_eq_false_iff_ne];exact h]
    rfl
  rw[hX]
  generalize decide ((bl S).head?=some 47)=b0 at *
  have pn:(ps.length:Int)<=4000000002:=by omega
  have VN:=fun S hs w'=>yd4 S hs w'
  have HS:=zh hsz
  have B1:=zh (Bk.new w (ps.map Value.string).toArray 9)
  have b1:=zh (yaa (Below.refl w.heap.size w) (.cells (ps.map Value.string).toArray 9))
  clear hp1 hp2 hp3 hT hTb hTs hX hr hsz hw hmx
  go_enter Tryz.func11,Tryz.ntmps11
  go_wp2_with (first
   | (go_at_call 35;(with_reducible refine SP.mono ?_);rintro e w2 ⟨rfl,rfl⟩)
   | (go_at_call 34;(with_reducible refine(CU _).mono ?_);rintro e w1 ⟨rfl,rfl⟩))
  generalize hw1:World.alloc _ (.cells (ps.map Value.string).toArray _)=w1 at *
  clear hw1 SP CU
  go_loopw [4,19] (fun v i wr=>∃ k:Nat,k<=ps.length/\i=.int .i64 (k:Int)/\v=.bool (b0&&((ps.map bl).take k).all nameB)/\w1=wr) (fun _ i _=>(ps.length - intOf i).toNat)
  case atStart=>exact⟨0,Nat.zero_le _,rfl,by simp,rfl⟩
  case round=>
   obtain⟨k,hk,rfl,rfl,rfl⟩:=hrel
   by_cases hkn:k=ps.length
   ·subst hkn
    rw[List.take_of_length_le (by rw[List.length_map];exact Nat.le_refl _)]
    obtain⟨b,hb⟩:∃ b,(b0&&(ps.map bl).all nameB)=b:=⟨_,rfl⟩
    have HB:=zh hb
    rw[hb]
    clear hb
    cases b
    ·go_wp2
     go_ret
     exact⟨by rw[HB.out];rfl,b1.out⟩
    ·by_cases h4:ps.length<=4
     ·have h4':(ps.length:Int)<=4:=by omega
      have H4:=zh (decide_eq_true h4)
      clear h4
      go_wp2
      go_ret
      exact⟨by rw[HB.out,H4.out];rfl,b1.out⟩
     ·have h4':¬(ps.length:Int)<=4:=by omega
      have H4:=zh (decide_eq_false h4)
      clear h4
      go_wp2
      go_ret
      exact⟨by rw[H4.out,Bool.and_false];rfl,b1.out⟩
   ·have hlt:k<ps.length:=by omega
    have hi:(k:Int)<(ps.length:Int):=by omega
    obtain⟨x,hx⟩:∃ x,ps[k]?=some x:=⟨_,List.getElem?_eq_getElem hlt⟩
    have hc:w1.cell? ⟨w.heap.size,k,none⟩=some (.string x):=by
     rw[B1.out.cell,List.getElem?_toArray,List.getElem?_map,hx];rfl
    have hnx:((ps.map bl).take (k+1)).all nameB=(((ps.map bl).take k).all nameB&&nameB (bl x)):=by
     rw[List.take_add_one,List.getElem?_map,hx,List.all_append]
     simp
    have HN:=zh hnx
    have VX:=fun w'=>VN x (HS.out x (List.mem_of_getElem? hx)) w'
    obtain⟨b,hb⟩:∃ b,(b0&&((ps.map bl).take k).all nameB)=b:=⟨_,rfl⟩
    have HB:=zh hb
    rw[hb]
    clear hx hnx hb VN
    cases b
    ·go_wp2
     go_roundw
     case rel=>exact⟨k+1,by omega,by go_num,by rw[HN.out,<- Bool.and_assoc,HB.out];rfl,by first|rfl|trivial⟩
     case measure=>simp only[intOf];omega
    ·go_wp2_with (go_at_call 36;(with_reducible refine(VX _).mono ?_);rintro e w2 ⟨rfl,rfl⟩)
     go_roundw
     case rel=>exact⟨k+1,by omega,by go_num,by rw[HN.out,<- Bool.and_assoc,HB.out];simp,by first|rfl|trivial⟩
     case measure=>simp only[intOf];omega
open Go.RowKit Go.Sort Go.Joins Go.Proofs.YtajmjllhdcdkmaaGreatDoor.Dg Go.Proofs.YtajmjllhdcdkmaaGreatDoor.Q Go.Proofs.YtajmjllhdcdkmaaGreatDoor.Num Go.Proofs.YtajmjllhdcdkmaaGreatDoor.Str
def Tryz.ren167:Go.Shelf.Ren:=⟨fun|167=>180|n=>Tryz.lays105_ren.f n,Tryz.lays105_ren.t,Tryz.lays105_ren.g⟩
theorem Tryz.lays167':Go.Proofs.Lays.n167 Tryz.prog Tryz.ren167:={ Tryz.lays105 with
 f167:=Tryz.func180.trans (congrArg some (by kernel_rfl)) }
theorem Tryz.Builder_Extra_167':Builder.Extra Tryz.prog Tryz.ren167:={ Tryz.Builder_Extra_105 with }
theorem yhw (B b:Nat) (l:List UInt8) (c:UInt8) (w:World) (h:Bd w B b l) (hl:l.length<=1000000000) :
  Calls Tryz.prog 180 #[.pointer (some ⟨b,0,none⟩),.int .u8 (c.toNat:Int)] w fun e w'=>e=.returned .nilIface/\Bd w' B b (l++[c])/\Below B w w':=by
 refine(Any.Builder_WriteByte Tryz.lays167' Tryz.Builder_Extra_167' B b (Lib.byteCells l) (c.toNat:Int) w h.1 (by rw[Lib.byteCells_length];omega) h.2).mono ?_
 rintro e w' ⟨rfl,h1,h2⟩
 refine⟨rfl,⟨?_,Nat.le_trans h.2 h2.size⟩,h2⟩
 rw[Lib.byteCells_append]
 exact .inr h1
theorem ymf (S T:ByteArray) (k:Bool) (h1:(Lib.trimPrefix S.data.toList [34]).toArray=T.data) (h2:Lib.hasPrefix S.data.toList [34]=k) (w:World):Calls Tryz.prog 34 #[.string S,.string ⟨#[34]⟩] w fun e w'=>e=.returned (.tuple #[.string T,.bool k])/\w=w':=by
 refine(Tryz.strings_CutPrefix S ⟨#[34]⟩ w).mono ?_
 rintro e w' ⟨rfl,rfl⟩
 rw[show (⟨#[34]⟩:ByteArray).data.toList=[34] from rfl,h1,h2]
 exact⟨rfl,rfl⟩
theorem yfj (w:World):Calls Tryz.prog 138 #[.string ⟨#[34,109,34]⟩] w fun e w'=>e=.returned (.tuple #[.string ⟨#[109]⟩,.string ⟨#[]⟩,.bool true])/\Below w.heap.size w w':=by
 have CP1:=fun w'=>ymf ⟨#[34,109,34]⟩ ⟨#[109,34]⟩ true (by decide) (by decide) w'
 have CP2:=fun w'=>ymf ⟨#[34]⟩ ⟨#[]⟩ true (by decide) (by decide) w'
 have B0:=zh (Bd.fresh w)
 have WB:=fun w' (h:Bd w' w.heap.size w.heap.size [])=>(show Calls Tryz.prog 180 #[.pointer (some ⟨w.heap.size,0,none⟩),.int .u8 109] w' fun e w2=>e=.returned .nilIface/\Bd w2 w.heap.size w.heap.size [109]/\Below w.heap.size w' w2 from yhw w.heap.size w.heap.size [] 109 w' h (by decide))
 go_enter Tryz.func138,Tryz.ntmps138
 go_wp2_with (go_at_call 34;(with_reducible refine(CP1 _).mono ?_);rintro e w1 ⟨rfl,rfl⟩)
 have i1:∀ h,(((⟨#[109,34]⟩:ByteArray)[0]'h).toNat:Int)=109:=fun _=>rfl
 have i2:∀ h,(((⟨#[34]⟩:ByteArray)[0]'h).toNat:Int)=34:=fun _=>rfl
 have x1:(⟨#[109,34]⟩:ByteArray).extract 1 2=⟨#[34]⟩:=by decide
 have s1:(⟨#[109,34]⟩:ByteArray).size=2:=rfl
 have s2:(⟨#[34]⟩:ByteArray).size=1:=rfl
 have n1:(⟨#[109,34]⟩:ByteArray).toList.isEmpty=false:=by decide +kernel
 have n2:(⟨#[34]⟩:ByteArray).toList.isEmpty=false:=by decide +kernel
 refine wp_loop_rounds 2 ?_
 rw[rounds_succ]
 go_wp2_with (go_at_call 180;(with_reducible refine(WB _ B0.out).mono ?_);rintro e w1 ⟨rfl,h1,h2⟩;have B1:=zh h1;have H1:=zh h2;clear h1 h2)
 rw[rounds_succ]
 have BS:=(show Calls Tryz.prog 145 #[.pointer (some ⟨w.heap.size,0,none⟩)] w1 fun e w2=>e=.returned (.string ⟨#[109]⟩)/\Below w.heap.size w1 w2 from yjs w.heap.size w.heap.size [109] w1 B1.out)
 go_wp2_with (first
  | (go_at_call 145;(with_reducible refine BS.mono ?_);rintro e w3 ⟨rfl,h3⟩;have H3:=zh h3;clear h3)
  | (go_at_call 34;(with_reducible refine(CP2 _).mono ?_);rintro e w2 ⟨rfl,rfl⟩))
 go_ret3
 exact⟨rfl,((yaa (Below.refl w.heap.size w) _).trans H1.out).trans H3.out⟩
end Go.Proofs.YtajmjllhdcdkmaaGreatDoor
