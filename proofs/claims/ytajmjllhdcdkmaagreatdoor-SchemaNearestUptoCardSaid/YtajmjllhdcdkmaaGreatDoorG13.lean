import Derived.Test.YtajmjllhdcdkmaaGreatDoorZ
import Derived.Test.YtajmjllhdcdkmaaGreatDoorG11
import Derived.Great.Walk
import Derived.Deep.RegionWith
import Derived.Deep.DeepCutAuto
import Derived.Deep.LoopGhost
set_option maxRecDepth 100000
set_option maxHeartbeats 12800000
namespace Go.Proofs.YtajmjllhdcdkmaaGreatDoor
open Go.RowKit Dg Q Num Str
theorem yla {α β:Type} {f:α->List β} {m:Nat} (hf:∀ x,(f x).length=m):∀ {l:List α} {k j:Nat} {s:α},l[k]?=some s->j<m->(l.flatMap f)[k*m+j]?=(f s)[j]?
 | [],k,j,s,h,_=>by simp at h
 | x::l,0,j,s,h,hj=>by
  cases h
  rw[List.flatMap_cons,Nat.zero_mul,Nat.zero_add,List.getElem?_append_left (by rw[hf];exact hj)]
 | x::l,k+1,j,s,h,hj=>by
  rw[List.flatMap_cons,Nat.succ_mul,List.getElem?_append_right (by rw[hf];omega),hf,show k*m+m+j - m=k*m+j by omega]
  exact yla hf (by simpa using h) hj
theorem Sy.len (s:Sy):s.L.length=11:=rfl
def symC:Array Value:=(syms.flatMap Sy.L).toArray
theorem yev (w:World):Calls Tryz.prog 199 #[] w fun e w'=>e=.returned (.slice (some ⟨w.heap.size,0,none⟩) 20 20)/\w.alloc (.cells symC 172)=w':=by
 go_enter Tryz.func199,Tryz.ntmps199
 iterate 11 go_step
 refine Great.wpList_readTo (by rfl) (some 1) (by rfl) (.agg #[.int .i64 1,.int .i64 0,.int .i64 0,.int .i64 0,.int .i64 0,.int .i64 0,.int .i64 0]) (by kernel_rfl) ?_
 refine Great.wpList_readTo (by rfl) (some 2) (by rfl) (.agg #[.string ⟨#[109]⟩,.string ⟨#[49]⟩,.string ⟨#[48]⟩,.bool true,.int .i64 1,.int .i64 0,.int .i64 0,.int .i64 0,.int .i64 0,.int .i64 0,.int .i64 0]) (by kernel_rfl) ?_
 refine Great.wpList_readTo (by rfl) (some 3) (by rfl) (.agg #[.int .i64 0,.int .i64 1,.int .i64 0,.int .i64 0,.int .i64 0,.int .i64 0,.int .i64 0]) (by kernel_rfl) ?_
 refine Great.wpList_readTo (by rfl) (some 4) (by rfl) (.agg #[.string ⟨#[103]⟩,.string ⟨#[49,47,49,48,48,48]⟩,.string ⟨#[48]⟩,.bool true,.int .i64 0,.int .i64 1,.int .i64 0,.int .i64 0,.int .i64 0,.int .i64 0,.int .i64 0]) (by kernel_rfl) ?_
 refine Great.wpList_readTo (by rfl) (some 5) (by rfl) (.agg #[.int .i64 0,.int .i64 0,.int .i64 1,.int .i64 0,.int .i64 0,.int .i64 0,.int .i64 0]) (by kernel_rfl) ?_
 refine Great.wpList_readTo (by rfl) (some 6) (by rfl) (.agg #[.string ⟨#[115]⟩,.string ⟨#[49]⟩,.string ⟨#[48]⟩,.bool true,.int .i64 0,.int .i64 0,.int .i64 1,.int .i64 0,.int .i64 0,.int .i64 0,.int .i64 0]) (by kernel_rfl) ?_
 refine Great.wpList_readTo (by rfl) (some 7) (by rfl) (.agg #[.int .i64 0,.int .i64 0,.int .i64 0,.int .i64 1,.int .i64 0,.int .i64 0,.int .i64 0]) (by kernel_rfl) ?_
 refine Great.wpList_readTo (by rfl) (some 8) (by rfl) (.agg #[.string ⟨#[75]⟩,.string ⟨#[49]⟩,.string ⟨#[48]⟩,.bool true,.int .i64 0,.int .i64 0,.int .i64 0,.int .i64 1,.int .i64 0,.int .i64 0,.int .i64 0]) (by kernel_rfl) ?_
 refine Great.wpList_readTo (by rfl) (some 9) (by rfl) (.agg #[.int .i64 0,.int .i64 0,.int .i64 0,.int .i64 0,.int .i64 1,.int .i64 0,.int .i64 0]) (by kernel_rfl) ?_
 refine Great.wpList_readTo (by rfl) (some 10) (by rfl) (.agg #[.string ⟨#[109,111,108]⟩,.string ⟨#[49]⟩,.string ⟨#[48]⟩,.bool true,.int .i64 0,.int .i64 0,.int .i64 0,.int .i64 0,.int .i64 1,.int .i64 0,.int .i64 0]) (by kernel_rfl) ?_
 refine Great.wpList_readTo (by rfl) (some 11) (by rfl) (.agg #[.int .i64 0,.int .i64 0,.int .i64 0,.int .i64 0,.int .i64 0,.int .i64 1,.int .i64 0]) (by kernel_rfl) ?_
 refine Great.wpList_readTo (by rfl) (some 12) (by rfl) (.agg #[.string ⟨#[65]⟩,.string ⟨#[49]⟩,.string ⟨#[48]⟩,.bool true,.int .i64 0,.int .i64 0,.int .i64 0,.int .i64 0,.int .i64 0,.int .i64 1,.int .i64 0]) (by kernel_rfl) ?_
 refine Great.wpList_readTo (by rfl) (some 13) (by rfl) (.agg #[.int .i64 0,.int .i64 0,.int .i64 0,.int .i64 0,.int .i64 0,.int .i64 0,.int .i64 1]) (by kernel_rfl) ?_
 refine Great.wpList_readTo (by rfl) (some 14) (by rfl) (.agg #[.string ⟨#[99,100]⟩,.string ⟨#[49]⟩,.string ⟨#[48]⟩,.bool true,.int .i64 0,.int .i64 0,.int .i64 0,.int .i64 0,.int .i64 0,.int .i64 0,.int .i64 1]) (by kernel_rfl) ?_
 refine Great.wpList_readTo (by rfl) (some 15) (by rfl) (.agg #[.int .i64 0,.int .i64 0,.int .i64 1,.int .i64 0,.int .i64 0,.int .i64 0,.int .i64 0]) (by kernel_rfl) ?_
 refine Great.wpList_readTo (by rfl) (some 16) (by rfl) (.agg #[.string ⟨#[109,105,110]⟩,.string ⟨#[54,48]⟩,.string ⟨#[48]⟩,.bool false,.int .i64 0,.int .i64 0,.int .i64 1,.int .i64 0,.int .i64 0,.int .i64 0,.int .i64 0]) (by kernel_rfl) ?_
 refine Great.wpList_readTo (by rfl) (some 17) (by rfl) (.agg #[.int .i64 0,.int .i64 0,.int .i64 1,.int .i64 0,.int .i64 0,.int .i64 0,.int .i64 0]) (by kernel_rfl) ?_
 refine Great.wpList_readTo (by rfl) (some 18) (by rfl) (.agg #[.string ⟨#[104]⟩,.string ⟨#[51,54,48,48]⟩,.string ⟨#[48]⟩,.bool false,.int .i64 0,.int .i64 0,.int .i64 1,.int .i64 0,.int .i64 0,.int .i64 0,.int .i64 0]) (by kernel_rfl) ?_
 refine Great.wpList_readTo (by rfl) (some 19) (by rfl) (.agg #[.int .i64 0,.int .i64 0,.int .i64 1,.int .i64 0,.int .i64 0,.int .i64 0,.int .i64 0]) (by kernel_rfl) ?_
 refine Great.wpList_readTo (by rfl) (some 20) (by rfl) (.agg #[.string ⟨#[100]⟩,.string ⟨#[56,54,52,48,48]⟩,.string ⟨#[48]⟩,.bool false,.int .i64 0,.int .i64 0,.int .i64 1,.int .i64 0,.int .i64 0,.int .i64 0,.int .i64 0]) (by kernel_rfl) ?_
 refine Great.wpList_readTo (by rfl) (some 21) (by rfl) (.agg #[.int .i64 0,.int .i64 1,.int .i64 0,.int .i64 0,.int .i64 0,.int .i64 0,.int .i64 0]) (by kernel_rfl) ?_
 refine Great.wpList_readTo (by rfl) (some 22) (by rfl) (.agg #[.string ⟨#[116]⟩,.string ⟨#[49,48,48,48]⟩,.string ⟨#[48]⟩,.bool true,.int .i64 0,.int .i64 1,.int .i64 0,.int .i64 0,.int .i64 0,.int .i64 0,.int .i64 0]) (by kernel_rfl) ?_
 refine Great.wpList_readTo (by rfl) (some 23) (by rfl) (.agg #[.int .i64 3,.int .i64 0,.int .i64 0,.int .i64 0,.int .i64 0,.int .i64 0,.int .i64 0]) (by kernel_rfl) ?_
 refine Great.wpList_readTo (by rfl) (some 24) (by rfl) (.agg #[.string ⟨#[76]⟩,.string ⟨#[49,47,49,48,48,48]⟩,.string ⟨#[48]⟩,.bool true,.int .i64 3,.int .i64 0,.int .i64 0,.int .i64 0,.int .i64 0,.int .i64 0,.int .i64 0]) (by kernel_rfl) ?_
 refine Great.wpList_readTo (by rfl) (some 25) (by rfl) (.agg #[.int .i64 0,.int .i64 0,.int .i64 (-1),.int .i64 0,.int .i64 0,.int .i64 0,.int .i64 0]) (by kernel_rfl) ?_
 refine Great.wpList_readTo (by rfl) (some 26) (by rfl) (.agg #[.string ⟨#[72,122]⟩,.string ⟨#[49]⟩,.string ⟨#[48]⟩,.bool true,.int .i64 0,.int .i64 0,.int .i64 (-1),.int .i64 0,.int .i64 0,.int .i64 0,.int .i64 0]) (by kernel_rfl) ?_
 refine Great.wpList_readTo (by rfl) (some 27) (by rfl) (.agg #[.int .i64 1,.int .i64 1,.int .i64 (-2),.int .i64 0,.int .i64 0,.int .i64 0,.int .i64 0]) (by kernel_rfl) ?_
 refine Great.wpList_readTo (by rfl) (some 28) (by rfl) (.agg #[.string ⟨#[78]⟩,.string ⟨#[49]⟩,.string ⟨#[48]⟩,.bool true,.int .i64 1,.int .i64 1,.int .i64 (-2),.int .i64 0,.int .i64 0,.int .i64 0,.int .i64 0]) (by kernel_rfl) ?_
 refine Great.wpList_readTo (by rfl) (some 29) (by rfl) (.agg #[.int .i64 (-1),.int .i64 1,.int .i64 (-2),.int .i64 0,.int .i64 0,.int .i64 0,.int .i64 0]) (by kernel_rfl) ?_
 refine Great.wpList_readTo (by rfl) (some 30) (by rfl) (.agg #[.string ⟨#[80,97]⟩,.string ⟨#[49]⟩,.string ⟨#[48]⟩,.bool true,.int .i64 (-1),.int .i64 1,.int .i64 (-2),.int .i64 0,.int .i64 0,.int .i64 0,.int .i64 0]) (by kernel_rfl) ?_
 refine Great.wpList_readTo (by rfl) (some 31) (by rfl) (.agg #[.int .i64 2,.int .i64 1,.int .i64 (-2),.int .i64 0,.int .i64 0,.int .i64 0,.int .i64 0]) (by kernel_rfl) ?_
 refine Great.wpList_readTo (by rfl) (some 32) (by rfl) (.agg #[.string ⟨#[74]⟩,.string ⟨#[49]⟩,.string ⟨#[48]⟩,.bool true,.int .i64 2,.int .i64 1,.int .i64 (-2),.int .i64 0,.int .i64 0,.int .i64 0,.int .i64 0]) (by kernel_rfl) ?_
 refine Great.wpList_readTo (by rfl) (some 33) (by rfl) (.agg #[.int .i64 2,.int .i64 1,.int .i64 (-3),.int .i64 0,.int .i64 0,.int .i64 0,.int .i64 0]) (by kernel_rfl) ?_
 refine Great.wpList_readTo (by rfl) (some 34) (by rfl) (.agg #[.string ⟨#[87]⟩,.string ⟨#[49]⟩,.string ⟨#[48]⟩,.bool true,.int .i64 2,.int .i64 1,.int .i64 (-3),.int .i64 0,.int .i64 0,.int .i64 0,.int .i64 0]) (by kernel_rfl) ?_
 refine Great.wpList_readTo (by rfl) (some 35) (by rfl) (.agg #[.int .i64 (-1),.int .i64 1,.int .i64 (-2),.int .i64 0,.int .i64 0,.int .i64 0,.int .i64 0]) (by kernel_rfl) ?_
 refine Great.wpList_readTo (by rfl) (some 36) (by rfl) (.agg #[.string ⟨#[98,97,114]⟩,.string ⟨#[49,48,48,48,48,48]⟩,.string ⟨#[48]⟩,.bool true,.int .i64 (-1),.int .i64 1,.int .i64 (-2),.int .i64 0,.int .i64 0,.int .i64 0,.int .i64 0]) (by kernel_rfl) ?_
 refine Great.wpList_readTo (by rfl) (some 37) (by rfl) (.agg #[.int .i64 0,.int .i64 0,.int .i64 0,.int .i64 1,.int .i64 0,.int .i64 0,.int .i64 0]) (by kernel_rfl) ?_
 refine Great.wpList_readTo (by rfl) (some 38) (by rfl) (.agg #[.string ⟨#[100,101,103,67]⟩,.string ⟨#[49]⟩,.string ⟨#[53,52,54,51,47,50,48]⟩,.bool false,.int .i64 0,.int .i64 0,.int .i64 0,.int .i64 1,.int .i64 0,.int .i64 0,.int .i64 0]) (by kernel_rfl) ?_
 refine Great.wpList_readTo (by rfl) (some 39) (by rfl) (.agg #[.int .i64 0,.int .i64 0,.int .i64 0,.int .i64 1,.int .i64 0,.int .i64 0,.int .i64 0]) (by kernel_rfl) ?_
 refine Great.wpList_readTo (by rfl) (some 40) (by rfl) (.agg #[.string ⟨#[100,101,103,70]⟩,.string ⟨#[53,47,57]⟩,.string ⟨#[52,53,57,54,55,47,49,56,48]⟩,.bool false,.int .i64 0,.int .i64 0,.int .i64 0,.int .i64 1,.int .i64 0,.int .i64 0,.int .i64 0]) (by kernel_rfl) ?_
 refine Great.wpList_runTo (by rfl) (some 41) (by rfl) (.slice (some ⟨w.heap.size,0,none⟩) 20 20) (w.alloc (.cells symC 172)) (by kernel_rfl) ?_
 go_wp2
 go_ret
 exact⟨rfl,rfl⟩
def sy0C:Array Value:=#[.string ⟨#[]⟩,.string ⟨#[]⟩,.string ⟨#[]⟩,.bool false,.int .i64 0,.int .i64 0,.int .i64 0,.int .i64 0,.int .i64 0,.int .i64 0,.int .i64 0]
def FK (w w':World) (g:Nat):Prop:=Bk w' w.heap.size sy0C 172/\Bk w' g symC 172/\Below w.heap.size w w'
theorem FK.up {w w1 w2:World} {g:Nat} (h:FK w w1 g) (hb:Below w1.heap.size w1 w2):FK w w2 g:=⟨h.1.up hb,h.2.1.up hb,yac h.2.2 hb⟩
theorem FK.grow {w w1:World} {g:Nat} (h:FK w w1 g) (C:Array Value) (t:TypeId):FK w (w1.alloc (.cells C t)) g:=h.up ((Below.refl _ _).alloc (Nat.le_refl _) _)
theorem FK.again {w w1:World} {g:Nat} (h:FK w w1 g):FK w (w1.alloc (.cells symC 172)) w1.heap.size:=
 have h2:=h.grow symC 172
 ⟨h2.1,Bk.new w1 _ _,h2.2.2⟩
theorem FK.start (w:World):FK w ((w.alloc (.cells sy0C 172)).alloc (.cells symC 172)) (w.heap.size+1):=by
 have s1:(w.alloc (.cells sy0C 172)).heap.size=w.heap.size+1:=by simp
 refine⟨(Bk.new w _ _).alloc,?_,((Below.refl _ w).alloc (Nat.le_refl _) _).alloc (by rw[s1];omega) _⟩
 have:=Bk.new (w.alloc (.cells sy0C 172)) symC 172
 rw[s1] at this
 exact this
theorem cells11 {w:World} {g:Nat} {t:TypeId} {a0 a1 a2 a3 a4 a5 a6 a7 a8 a9 a10:Value} (h:Bk w g #[a0,a1,a2,a3,a4,a5,a6,a7,a8,a9,a10] t):w.cell? ⟨g,0,none⟩=some a0/\w.cell? ⟨g,1,none⟩=some a1/\w.cell? ⟨g,2,none⟩=some a2/\w.cell? ⟨g,3,none⟩=some a3/\w.cell? ⟨g,4,none⟩=some a4/\w.cell? ⟨g,5,none⟩=some a5/\w.cell? ⟨g,6,none⟩=some a6/\w.cell? ⟨g,7,none⟩=some a7/\w.cell? ⟨g,8,none⟩=some a8/\w.cell? ⟨g,9,none⟩=some a9/\w.cell? ⟨g,10,none⟩=some a10:=
 ⟨h.cell 0,h.cell 1,h.cell 2,h.cell 3,h.cell 4,h.cell 5,h.cell 6,h.cell 7,h.cell 8,h.cell 9,h.cell 10⟩
theorem Bk.frozen11 {w:World} {g:Nat} {t:TypeId} {C:Array Value} (h:Bk w g C t):w.frozen? ⟨g,0,none⟩=false/\w.frozen? ⟨g,1,none⟩=false/\w.frozen? ⟨g,2,none⟩=false/\w.frozen? ⟨g,3,none⟩=false/\w.frozen? ⟨g,4,none⟩=false/\w.frozen? ⟨g,5,none⟩=false/\w.frozen? ⟨g,6,none⟩=false/\w.frozen? ⟨g,7,none⟩=false/\w.frozen? ⟨g,8,none⟩=false/\w.frozen? ⟨g,9,none⟩=false/\w.frozen? ⟨g,10,none⟩=false:=
 ⟨h.frozen 0,h.frozen 1,h.frozen 2,h.frozen 3,h.frozen 4,h.frozen 5,h.frozen 6,h.frozen 7,h.frozen 8,h.frozen 9,h.frozen 10⟩
theorem ygm {w:World} {g k:Nat} {n f o:List UInt8} {b:Bool} {p0 p1 p2 p3 p4 p5 p6:Int} (h:Bk w g symC 172) (hk:syms[k]?=some ⟨n,f,o,b,⟨p0,p1,p2,p3,p4,p5,p6⟩⟩) :
  w.cell? ⟨g,k*11,none⟩=some (.string ⟨n.toArray⟩)/\w.cell? ⟨g,k*11+1,none⟩=some (.string ⟨f.toArray⟩)/\w.cell? ⟨g,k*11+2,none⟩=some (.string ⟨o.toArray⟩)/\w.cell? ⟨g,k*11+3,none⟩=some (.bool b)/\w.cell? ⟨g,k*11+4,none⟩=some (.int .i64 p0)/\w.cell? ⟨g,k*11+5,none⟩=some (.int .i64 p1)/\w.cell? ⟨g,k*11+6,none⟩=some (.int .i64 p2)/\w.cell? ⟨g,k*11+7,none⟩=some (.int .i64 p3)/\w.cell? ⟨g,k*11+8,none⟩=some (.int .i64 p4)/\w.cell? ⟨g,k*11+9,none⟩=some (.int .i64 p5)/\w.cell? ⟨g,k*11+10,none⟩=some (.int .i64 p6):=by
 have key:∀ j,j<11->w.cell? ⟨g,k*11+j,none⟩=(Sy.L ⟨n,f,o,b,⟨p0,p1,p2,p3,p4,p5,p6⟩⟩)[j]?:=fun j hj=>by
  rw[h.cell]
  unfold symC
  rw[List.getElem?_toArray,yla Sy.len hk hj]
 exact⟨key 0 (by decide),key 1 (by decide),key 2 (by decide),key 3 (by decide),key 4 (by decide),key 5 (by decide),key 6 (by decide),key 7 (by decide),key 8 (by decide),key 9 (by decide),key 10 (by decide)⟩
theorem yhx {α:Type} {p:α->Bool}:∀ {l:List α} {k:Nat} {s:α},(l.take k).find? p=none->l[k]?=some s->p s=true->l.find? p=some s
 | [],k,s,_,h,_=>by simp at h
 | x::l,0,s,_,h,hp=>by cases h;rw[List.find?_cons_of_pos hp]
 | x::l,k+1,s,h0,h,hp=>by
  rw[List.take_succ_cons] at h0
  have hx:p x=false:=by
   cases hx:p x
   ·rfl
   ·rw[List.find?_cons_of_pos hx] at h0;cases h0
  rw[List.find?_cons_of_neg (by rw[hx];decide)] at h0 ⊢
  exact yhx h0 (by simpa using h) hp
theorem yk8 {α:Type} {p:α->Bool} {l:List α} {k:Nat} {s:α} (h0:(l.take k).find? p=none) (h:l[k]?=some s) (hp:p s=false):(l.take (k+1)).find? p=none:=by
 rw[List.take_add_one,List.find?_append,h0,h]
 simp[hp]
theorem eqSS (S T:ByteArray):(S.toList==T.toList)=(bl S==bl T):=by
 rw[Lib.toList_data,Lib.toList_data];rfl
theorem yim:syms.length=20:=rfl
theorem ya8 {w0 w:World} {B g:Nat} {v0 v1 v2 v3 v4 v5 v6 v7 v8 v9 v10:Value} (h:Below B w0 w) (hg:B<=g):Below B w0 (((((((((((w.setCell ⟨g,0,none⟩ v0).setCell ⟨g,1,none⟩ v1).setCell ⟨g,2,none⟩ v2).setCell ⟨g,3,none⟩ v3).setCell ⟨g,4,none⟩ v4).setCell ⟨g,5,none⟩ v5).setCell ⟨g,6,none⟩ v6).setCell ⟨g,7,none⟩ v7).setCell ⟨g,8,none⟩ v8).setCell ⟨g,9,none⟩ v9).setCell ⟨g,10,none⟩ v10):=yd9 hg [v0,v1,v2,v3,v4,v5,v6,v7,v8,v9,v10] 0 h
theorem yn3 {c:UInt8} {l:List UInt8} (h:pfx c=some l):l.length<=9223372036854775807:=by
 unfold pfx at h
 repeat' split at h
 all_goals (cases h;try decide)
theorem yrc {k:Nat} {s:Sy} (h:syms[k]?=some s):s.fac.length<=9223372036854775807:=by
 have hm:=List.mem_of_getElem? h
 have:∀ s ∈ syms,s.fac.length<=6:=by decide
 have:=this s hm
 omega
def SyQ (o:Option Sy) (w:World) (e:Ending) (w':World):Prop:=e=.returned (.tuple #[(o.getD Sy.none).v,.bool o.isSome])/\Below w.heap.size w w'
theorem yrs (S:ByteArray) (hs:S.size<=1000) (w:World) (hw:Wf w):Calls Tryz.prog 166 #[.string S] w (SyQ (sfind (bl S)) w):=by
 have k0:=zh (FK.start w)
 obtain⟨X,hX⟩:∃ X,sfind (bl S)=X:=⟨_,rfl⟩
 rw[hX]
 have HX:=zh hX
 clear hX
 have sb:(S.size:Int)<=1000:=by omega
 go_enter Tryz.func166,Tryz.ntmps166
 go_wp2_with (go_at_call 199;refine(yev _).mono ?_;rintro e w1 ⟨rfl,rfl⟩)
 generalize hw1:World.alloc _ (.cells symC 172)=w1
 go_loopw [12] (fun i wr=>∃ k:Nat,k<=20/\i=.int .i64 (k:Int)/\Hid ((syms.take k).find? (fun s=>s.name==bl S)=none)/\Hid (FK w wr (w.heap.size+1))) (fun i _=>(20 - intOf i).toNat)
 case atStart=>exact⟨0,by omega,rfl,zh rfl,by rw[<- hw1];exact k0⟩
 case round=>
  obtain⟨k,hk,rfl,hN,hF⟩:=hrel
  clear k0 hw1
  by_cases hk20:k=20
  ·subst hk20
   have h1:syms.find? (fun s=>s.name==bl S)=none:=hN.out
   have hX:=HX.out
   unfold sfind at hX
   rw[h1] at hX
   dsimp only at hX
   clear h1 hN HX hk
   by_cases hl:S.size<2
   ·rw[if_pos (by rw[yag];exact hl)] at hX
    subst hX
    have hl':(S.size:Int)<2:=by omega
    obtain⟨z0,z1,z2,z3,z4,z5,z6,z7,z8,z9,z10⟩:=cells11 (show Bk wr w.heap.size #[.string ⟨#[]⟩,.string ⟨#[]⟩,.string ⟨#[]⟩,.bool false,.int .i64 0,.int .i64 0,.int .i64 0,.int .i64 0,.int .i64 0,.int .i64 0,.int .i64 0] _ from hF.out.1)
    obtain⟨f0,f1,f2,f3,f4,f5,f6,f7,f8,f9,f10⟩:=hF.out.1.frozen11
    clear hl
    go_wp2_with fail
    refine bodyPost_ret (v:=.tuple #[.agg #[.string ⟨#[]⟩,.string ⟨#[]⟩,.string ⟨#[]⟩,.bool false,.int .i64 0,.int .i64 0,.int .i64 0,.int .i64 0,.int .i64 0,.int .i64 0,.int .i64 0],.bool false]) (by simp[results,Tryz.results166,go_sem,z0,z1,z2,z3,z4,z5,z6,z7,z8,z9,z10]) rfl ⟨rfl,ya8 hF.out.2.2 (Nat.le_refl _)⟩
   ·rw[if_neg (by rw[yag];exact hl)] at hX
    have hl':¬(S.size:Int)<2:=by omega
    have hl0:(0:Int)<(S.size:Int):=by omega
    have hc:(bl S).headD 0=S[0]:=by
     have:=bl_at S 0 (by omega)
     rw[List.headD_eq_head?_getD,List.head?_eq_getElem?,this];rfl
    rw[hc] at hX
    have PF:=fun w=>ym8 S[0] w
    obtain⟨T,hT⟩:∃ T:ByteArray,S.extract 1 S.size=T:=⟨_,rfl⟩
    have hTl:(bl S).tail=bl T:=by rw[<- hT,yc1,<- List.drop_one,List.take_of_length_le (by rw[List.length_drop,yag];omega)]
    rw[hTl] at hX
    have hbl:∀ bt,pfx S[0]=some bt->bt.length<=9223372036854775807:=fun bt h=>yn3 h
    generalize pfx S[0]=o at *
    have hG:=zh hF.out.again
    clear hc hTl
    have go1:Hid (1<=S.size):=zh (by omega)
    have i1:(1:Int)<=(S.size:Int):=by omega
    cases o with
    | none=>
     dsimp only at hX
     subst hX
     go_wp2_with (first
      | (go_at_call 200;refine(PF _).mono ?_;rintro e w1 ⟨rfl,rfl⟩)
      | (go_at_call 199;refine(yev _).mono ?_;rintro e w1 ⟨rfl,rfl⟩))
     generalize hw2:World.alloc _ (.cells symC 172)=w2 at hG ⊢
     generalize wr.heap.size=g at *
     clear hw2
     go_loopw [34] (fun i wx=>∃ k:Nat,k<=20/\i=.int .i64 (k:Int)/\Hid (FK w wx g)) (fun i _=>(20 - intOf i).toNat)
     case atStart=>exact⟨0,by omega,rfl,hG⟩
     case round=>
      clear hF hG
      obtain⟨k,hk,rfl,hF⟩:=hrel
      by_cases hk20:k=20
      ·subst hk20
       obtain⟨z0,z1,z2,z3,z4,z5,z6,z7,z8,z9,z10⟩:=cells11 (show Bk wr w.heap.size #[.string ⟨#[]⟩,.string ⟨#[]⟩,.string ⟨#[]⟩,.bool false,.int .i64 0,.int .i64 0,.int .i64 0,.int .i64 0,.int .i64 0,.int .i64 0,.int .i64 0] _ from hF.out.1)
       obtain⟨f0,f1,f2,f3,f4,f5,f6,f7,f8,f9,f10⟩:=hF.out.1.frozen11
       go_wp2_with fail
       refine bodyPost_ret (v:=.tuple #[.agg #[.string ⟨#[]⟩,.string ⟨#[]⟩,.string ⟨#[]⟩,.bool false,.int .i64 0,.int .i64 0,.int .i64 0,.int .i64 0,.int .i64 0,.int .i64 0,.int .i64 0],.bool false]) (by simp[results,Tryz.results166,go_sem,z0,z1,z2,z3,z4,z5,z6,z7,z8,z9,z10]) rfl ⟨rfl,ya8 hF.out.2.2 (Nat.le_refl _)⟩
      ·have hlt:k<20:=by omega
       have hi:(k:Int)<20:=by omega
       obtain⟨s,hsk⟩:∃ s,syms[k]?=some s:=⟨_,List.getElem?_eq_getElem (by rw[yim];exact hlt)⟩
       obtain⟨n,f,o,b,p0,p1,p2,p3,p4,p5,p6⟩:=s
       obtain⟨c0,c1,c2,c3,c4,c5,c6,c7,c8,c9,c10⟩:=ygm hF.out.2.1 hsk
       have HS:=zh hsk
       obtain⟨M,hM⟩:∃ M:ByteArray,(⟨n.toArray⟩:ByteArray)=M:=⟨_,rfl⟩
       have hE:(M.toList==T.toList)=(n==bl T):=by rw[eqSS,<- hM];rfl
       rw[hM] at c0
       have HM:=zh hM
       obtain⟨fk,hfk⟩:∃ M:ByteArray,(⟨f.toArray⟩:ByteArray)=M:=⟨_,rfl⟩
       rw[hfk] at c1
       obtain⟨ok,hok⟩:∃ M:ByteArray,(⟨o.toArray⟩:ByteArray)=M:=⟨_,rfl⟩
       rw[hok] at c2
       have Hfk:=zh hfk
       have Hok:=zh hok
       clear hM hsk hfk hok hk20
       clear hE HS
       go_wp2
       go_quiet (fail)
       go_wp2
       go_roundw
       case rel=>exact⟨k+1,by omega,by go_num,zh (hF.out.up (by (repeat (first|exact zJ _ _|assumption|refine yab ?_ _|refine zL ?_|refine yac ?_ (by assumption)|refine yaa ?_ _))))⟩
       case measure=>simp only[intOf];omega
    | some bt=>
     dsimp only at hX
     have HX:=zh hX
     clear hX
     obtain⟨B,hB⟩:∃ B:ByteArray,(⟨bt.toArray⟩:ByteArray)=B:=⟨_,rfl⟩
     have hBs:B.size<=9223372036854775807:=by
      rw[<- hB,<- yag,bl_mk]
      exact hbl bt rfl
     have PF:=fun w=>(show Calls Tryz.prog 200 #[.int .u8 (S[0].toNat:Int)] w fun e w'=>e=.returned (.tuple #[.string B,.bool true])/\w=w' from hB▸PF w)
     have MU:=fun (F:ByteArray) (hF:F.size<=9223372036854775807) w' (hb:Below w.heap.size w w')=>yr8 F B hF hBs w' (hw.up hb)
     rw[show bl B=bt by rw[<- hB];rfl] at MU
     clear hB hBs
     go_wp2_with (first
      | (go_at_call 200;refine(PF _).mono ?_;rintro e w1 ⟨rfl,rfl⟩)
      | (go_at_call 199;refine(yev _).mono ?_;rintro e w1 ⟨rfl,rfl⟩))
     generalize hw2:World.alloc _ (.cells symC 172)=w2 at hG ⊢
     generalize wr.heap.size=g at *
     clear hw2
     go_loopw [34] (fun i wx=>∃ k:Nat,k<=20/\i=.int .i64 (k:Int)/\Hid ((syms.take k).find? (fun s=>s.pre&&s.name==bl T)=none)/\Hid (FK w wx g)) (fun i _=>(20 - intOf i).toNat)
     case atStart=>exact⟨0,by omega,rfl,zh rfl,hG⟩
     case round=>
      clear hF hG
      obtain⟨k,hk,rfl,hN,hF⟩:=hrel
      by_cases hk20:k=20
      ·subst hk20
       have hX:=HX.out
       rw[show syms.find? (fun s=>s.pre&&s.name==bl T)=none from hN.out] at hX
       subst hX
       clear hN HX MU
       obtain⟨z0,z1,z2,z3,z4,z5,z6,z7,z8,z9,z10⟩:=cells11 (show Bk wr w.heap.size #[.string ⟨#[]⟩,.string ⟨#[]⟩,.string ⟨#[]⟩,.bool false,.int .i64 0,.int .i64 0,.int .i64 0,.int .i64 0,.int .i64 0,.int .i64 0,.int .i64 0] _ from hF.out.1)
       obtain⟨f0,f1,f2,f3,f4,f5,f6,f7,f8,f9,f10⟩:=hF.out.1.frozen11
       go_wp2_with fail
       refine bodyPost_ret (v:=.tuple #[.agg #[.string ⟨#[]⟩,.string ⟨#[]⟩,.string ⟨#[]⟩,.bool false,.int .i64 0,.int .i64 0,.int .i64 0,.int .i64 0,.int .i64 0,.int .i64 0,.int .i64 0],.bool false]) (by simp[results,Tryz.results166,go_sem,z0,z1,z2,z3,z4,z5,z6,z7,z8,z9,z10]) rfl ⟨rfl,ya8 hF.out.2.2 (Nat.le_refl _)⟩
      ·have hlt:k<20:=by omega
       have hi:(k:Int)<20:=by omega
       obtain⟨s,hsk⟩:∃ s,syms[k]?=some s:=⟨_,List.getElem?_eq_getElem (by rw[yim];exact hlt)⟩
       obtain⟨n,f,o,b,p0,p1,p2,p3,p4,p5,p6⟩:=s
       obtain⟨c0,c1,c2,c3,c4,c5,c6,c7,c8,c9,c10⟩:=ygm hF.out.2.1 hsk
       have HS:=zh hsk
       obtain⟨M,hM⟩:∃ M:ByteArray,(⟨n.toArray⟩:ByteArray)=M:=⟨_,rfl⟩
       have hE:(M.toList==T.toList)=(n==bl T):=by rw[eqSS,<- hM];rfl
       rw[hM] at c0
       have HM:=zh hM
       obtain⟨fk,hfk⟩:∃ M:ByteArray,(⟨f.toArray⟩:ByteArray)=M:=⟨_,rfl⟩
       rw[hfk] at c1
       obtain⟨ok,hok⟩:∃ M:ByteArray,(⟨o.toArray⟩:ByteArray)=M:=⟨_,rfl⟩
       rw[hok] at c2
       have Hfk:=zh hfk
       have Hok:=zh hok
       clear hM hsk hfk hok hk20
       cases hb:b
       ·have HN:=zh (yk8 hN.out HS.out (by show (b&&_)=false;rw[hb];rfl))
        subst hb
        clear hN hE
        go_wp2
        go_quiet (fail)
        go_wp2
        go_roundw
        case rel=>exact⟨k+1,by omega,by go_num,HN,zh (hF.out.up (by (repeat (first|exact zJ _ _|assumption|refine yab ?_ _|refine zL ?_|refine yac ?_ (by assumption)|refine yaa ?_ _))))⟩
        case measure=>simp only[intOf];omega
       ·cases hq:n==bl T
        ·have HN:=zh (yk8 hN.out HS.out (by show (b&&_)=false;rw[hb];exact hq))
         rw[hq] at hE
         subst hb
         clear hN hq
         go_wp2
         go_quiet (fail)
         go_wp2
         go_roundw
         case rel=>exact⟨k+1,by omega,by go_num,HN,zh (hF.out.up (by (repeat (first|exact zJ _ _|assumption|refine yab ?_ _|refine zL ?_|refine yac ?_ (by assumption)|refine yaa ?_ _))))⟩
         case measure=>simp only[intOf];omega
        ·have hX:=HX.out
         rw[yhx hN.out HS.out (by show (b&&_)=true;rw[hb];exact hq)] at hX
         rw[hq] at hE
         have hX2:some (⟨n,bin dMul f bt,o,b,⟨p0,p1,p2,p3,p4,p5,p6⟩⟩:Sy)=X:=hX
         have hfs:f=bl fk:=by rw[<- Hfk.out];rfl
         have MU:=MU fk (by rw[<- yag,<- hfs];exact yrc HS.out)
         rw[<- hfs] at MU
         have hR:∃ R:ByteArray,(⟨(bin dMul f bt).toArray⟩:ByteArray)=R:=⟨_,rfl⟩
         obtain⟨Rs2,hR2⟩:=hR
         unfold GiveT at MU
         rw[hR2] at MU
         have HR2:=zh hR2
         subst hX2 hb
         clear hN hq HX hX hfs hR2
         have hH:=zh (hF.out.grow #[.string M,.string fk,.string ok,.bool true,.int .i64 p0,.int .i64 p1,.int .i64 p2,.int .i64 p3,.int .i64 p4,.int .i64 p5,.int .i64 p6] 172)
         have hC:=zh (Bk.new wr #[.string M,.string fk,.string ok,.bool true,.int .i64 p0,.int .i64 p1,.int .i64 p2,.int .i64 p3,.int .i64 p4,.int .i64 p5,.int .i64 p6] 172)
         go_wp2
         go_quiet (fail)
         go_wp2_with (go_at_call 201;refine(MU _ (hH.out.2.2.trans (Below.mono (by (repeat (first|exact zJ _ _|assumption|refine yab ?_ _|refine zL ?_|refine yac ?_ (by assumption)|refine yaa ?_ _))) hH.out.2.2.size))).mono ?_;rintro e w3 ⟨rfl,hb⟩;have hd:=zh (yac (show Below (World.alloc wr (.cells #[.string M,.string fk,.string ok,.bool true,.int .i64 p0,.int .i64 p1,.int .i64 p2,.int .i64 p3,.int .i64 p4,.int .i64 p5,.int .i64 p6] 172)).heap.size (World.alloc wr (.cells #[.string M,.string fk,.string ok,.bool true,.int .i64 p0,.int .i64 p1,.int .i64 p2,.int .i64 p3,.int .i64 p4,.int .i64 p5,.int .i64 p6] 172)) _ from by (repeat (first|exact zJ _ _|assumption|refine yab ?_ _|refine zL ?_|refine yac ?_ (by assumption)|refine yaa ?_ _))) hb);have k3:=zh (hH.out.up hd.out);have b3:=zh (hC.out.up hd.out);obtain⟨y0,y1,y2,y3,y4,y5,y6,y7,y8,y9,y10⟩:=cells11 b3.out;obtain⟨x0,x1,x2,x3,x4,x5,x6,x7,x8,x9,x10⟩:=b3.out.frozen11;obtain⟨z0,z1,z2,z3,z4,z5,z6,z7,z8,z9,z10⟩:=cells11 (show Bk w3 w.heap.size #[.string ⟨#[]⟩,.string ⟨#[]⟩,.string ⟨#[]⟩,.bool false,.int .i64 0,.int .i64 0,.int .i64 0,.int .i64 0,.int .i64 0,.int .i64 0,.int .i64 0] _ from k3.out.1);obtain⟨f0,f1,f2,f3,f4,f5,f6,f7,f8,f9,f10⟩:=k3.out.1.frozen11;have hne:=Nat.ne_of_lt (Nat.lt_of_lt_of_le hF.out.1.lt (Nat.le_refl _));have hne2:w.heap.size<wr.heap.size:=hF.out.1.lt;clear hb)
         refine bodyPost_ret (v:=.tuple #[.agg #[.string M,.string Rs2,.string ok,.bool true,.int .i64 p0,.int .i64 p1,.int .i64 p2,.int .i64 p3,.int .i64 p4,.int .i64 p5,.int .i64 p6],.bool true]) (by simp[results,Tryz.results166,go_sem,z0,z1,z2,z3,z4,z5,z6,z7,z8,z9,z10]) rfl ⟨?_,ya8 (k3.out.2.2.setCell (Nat.le_of_lt hne2) _) (Nat.le_refl _)⟩
         rw[<- HM.out,<- HR2.out,<- Hok.out];rfl
  ·have hlt:k<20:=by omega
   have hi:(k:Int)<20:=by omega
   obtain⟨s,hsk⟩:∃ s,syms[k]?=some s:=⟨_,List.getElem?_eq_getElem (by rw[yim];exact hlt)⟩
   obtain⟨n,f,o,b,p0,p1,p2,p3,p4,p5,p6⟩:=s
   obtain⟨c0,c1,c2,c3,c4,c5,c6,c7,c8,c9,c10⟩:=ygm hF.out.2.1 hsk
   have HS:=zh hsk
   obtain⟨M,hM⟩:∃ M:ByteArray,(⟨n.toArray⟩:ByteArray)=M:=⟨_,rfl⟩
   have hE:(M.toList==S.toList)=(n==bl S):=by rw[eqSS,<- hM];rfl
   rw[hM] at c0
   have HM:=zh hM
   obtain⟨fk,hfk⟩:∃ M:ByteArray,(⟨f.toArray⟩:ByteArray)=M:=⟨_,rfl⟩
   rw[hfk] at c1
   obtain⟨ok,hok⟩:∃ M:ByteArray,(⟨o.toArray⟩:ByteArray)=M:=⟨_,rfl⟩
   rw[hok] at c2
   have Hfk:=zh hfk
   have Hok:=zh hok
   clear hM hsk hfk hok hk20
   cases hq:n==bl S
   ·rw[hq] at hE
    have HN:=zh (yk8 hN.out HS.out hq)
    clear hN hq
    go_wp2
    go_roundw
    case rel=>exact⟨k+1,by omega,by go_num,HN,zh (hF.out.grow _ _)⟩
    case measure=>simp only[intOf];omega
   ·rw[hq] at hE
    have hX:=HX.out
    unfold sfind at hX
    rw[yhx hN.out HS.out hq] at hX
    dsimp only at hX
    subst hX
    clear hN hq
    have hG:=zh (hF.out.grow #[.string M,.string fk,.string ok,.bool b,.int .i64 p0,.int .i64 p1,.int .i64 p2,.int .i64 p3,.int .i64 p4,.int .i64 p5,.int .i64 p6] 172)
    obtain⟨z0,z1,z2,z3,z4,z5,z6,z7,z8,z9,z10⟩:=cells11 (show Bk _ w.heap.size #[.string ⟨#[]⟩,.string ⟨#[]⟩,.string ⟨#[]⟩,.bool false,.int .i64 0,.int .i64 0,.int .i64 0,.int .i64 0,.int .i64 0,.int .i64 0,.int .i64 0] _ from hG.out.1)
    obtain⟨f0,f1,f2,f3,f4,f5,f6,f7,f8,f9,f10⟩:=hG.out.1.frozen11
    go_wp2
    refine bodyPost_ret (v:=.tuple #[.agg #[.string M,.string fk,.string ok,.bool b,.int .i64 p0,.int .i64 p1,.int .i64 p2,.int .i64 p3,.int .i64 p4,.int .i64 p5,.int .i64 p6],.bool true]) (by simp[results,Tryz.results166,go_sem,z0,z1,z2,z3,z4,z5,z6,z7,z8,z9,z10]) rfl ⟨?_,ya8 hG.out.2.2 (Nat.le_refl _)⟩
    rw[<- HM.out,<- Hfk.out,<- Hok.out];rfl
theorem Tryz.infoFac:(Tryz.prog.info? 174).map (fun i=>(i.zero,i.size,i.bytes))=some (some (.agg #[.string ⟨#[]⟩,.string ⟨#[]⟩,.string ⟨#[]⟩,.bool false,.int .i64 0,.int .i64 0,.int .i64 0,.int .i64 0,.int .i64 0,.int .i64 0,.int .i64 0,.int .i64 0,.bool false]),13,128):=by kernel_rfl
theorem PF.len (x:PF):x.L.length=13:=rfl
def FacQ (o:Option (List PF)) (w:World) (e:Ending) (w':World):Prop:=match o with
 | none=>e=.returned (.tuple #[.slice none 0 0,.int .i64 10])/\Below w.heap.size w w'
 | some xs=>∃ v,e=.returned (.tuple #[v,.int .i64 0])/\w'.ownsRow w.heap.size 174 13 v xs.length (xs.flatMap PF.L)/\Below w.heap.size w w'
theorem cells13 {w:World} {g:Nat} {t:TypeId} {a0 a1 a2 a3 a4 a5 a6 a7 a8 a9 a10 a11 a12:Value} (h:Bk w g #[a0,a1,a2,a3,a4,a5,a6,a7,a8,a9,a10,a11,a12] t):w.cell? ⟨g,0,none⟩=some a0/\w.cell? ⟨g,1,none⟩=some a1/\w.cell? ⟨g,2,none⟩=some a2/\w.cell? ⟨g,3,none⟩=some a3/\w.cell? ⟨g,4,none⟩=some a4/\w.cell? ⟨g,5,none⟩=some a5/\w.cell? ⟨g,6,none⟩=some a6/\w.cell? ⟨g,7,none⟩=some a7/\w.cell? ⟨g,8,none⟩=some a8/\w.cell? ⟨g,9,none⟩=some a9/\w.cell? ⟨g,10,none⟩=some a10/\w.cell? ⟨g,11,none⟩=some a11/\w.cell? ⟨g,12,none⟩=some a12:=
 ⟨h.cell 0,h.cell 1,h.cell 2,h.cell 3,h.cell 4,h.cell 5,h.cell 6,h.cell 7,h.cell 8,h.cell 9,h.cell 10,h.cell 11,h.cell 12⟩
theorem Bk.frozen13 {w:World} {g:Nat} {t:TypeId} {C:Array Value} (h:Bk w g C t):w.frozen? ⟨g,0,none⟩=false/\w.frozen? ⟨g,1,none⟩=false/\w.frozen? ⟨g,2,none⟩=false/\w.frozen? ⟨g,3,none⟩=false/\w.frozen? ⟨g,4,none⟩=false/\w.frozen? ⟨g,5,none⟩=false/\w.frozen? ⟨g,6,none⟩=false/\w.frozen? ⟨g,7,none⟩=false/\w.frozen? ⟨g,8,none⟩=false/\w.frozen? ⟨g,9,none⟩=false/\w.frozen? ⟨g,10,none⟩=false/\w.frozen? ⟨g,11,none⟩=false/\w.frozen? ⟨g,12,none⟩=false:=
 ⟨h.frozen 0,h.frozen 1,h.frozen 2,h.frozen 3,h.frozen 4,h.frozen 5,h.frozen 6,h.frozen 7,h.frozen 8,h.frozen 9,h.frozen 10,h.frozen 11,h.frozen 12⟩
theorem yqw {k:Nat} {sg:Int} {acc:List PF} {l:List UInt8} {x:PF} (h:pstep sg l=some (x,[])):pfac (k+1) sg acc l=some (acc++[x]):=by
 rw[pfac,h]
theorem ypz {k:Nat} {sg:Int} {acc:List PF} {l:List UInt8} {x:PF} {c:UInt8} {r:List UInt8} (h:pstep sg l=some (x,c::r)) :
  pfac (k+1) sg acc l=if c=32 then pfac k 1 (acc++[x]) r else if c=47 then pfac k (-1) (acc++[x]) r else none:=by
 rw[pfac,h]
theorem yd2 {k:Nat} {sg:Int} {acc:List PF} {l:List UInt8} (h:pstep sg l=none):pfac (k+1) sg acc l=none:=by
 rw[pfac,h]
theorem yje (S:ByteArray) (w:World):Calls Tryz.prog 34 #[.string S,.string ⟨#[94]⟩] w fun e w'=>
  e=.returned (.tuple #[.string ⟨(if (bl S).head?=some 94 then (bl S).tail else bl S).toArray⟩,.bool (decide ((bl S).head?=some 94))])/\w=w':=by
 refine(Tryz.strings_CutPrefix S ⟨#[94]⟩ w).mono ?_
 rintro e w' ⟨rfl,rfl⟩
 have h1:Lib.hasPrefix (bl S) [94]=decide ((bl S).head?=some 94):=by
  cases h:bl S with
  | nil=>rfl
  | cons x l=>
   unfold Lib.hasPrefix
   show (94==x&&true)=decide (some x=some 94)
   rw[Bool.and_true,Bool.eq_iff_iff,beq_iff_eq,decide_eq_true_iff]
   exact⟨fun e=>by rw[e],fun e=>by injection e with e;exact e.symm⟩
 have h2:Lib.trimPrefix (bl S) [94]=if (bl S).head?=some 94 then (bl S).tail else bl S:=by
  unfold Lib.trimPrefix
  rw[h1]
  by_cases h:(bl S).head?=some 94
  ·rw[if_pos h,decide_eq_true h,if_pos rfl];simp
  ·rw[if_neg h,decide_eq_false h];rfl
 refine⟨?_,rfl⟩
 rw[<- h1,<- h2];rfl
theorem yq0 (l:List UInt8):(body l).length+(if isNeg l=true then 1 else 0)=l.length:=by
 unfold body
 cases h:isNeg l
 ·simp
 ·rw[if_pos rfl]
  cases l with
  | nil=>cases h
  | cons a l=>simp
theorem yks {l:List UInt8} {e:Int} {n:Nat} (h:pexp l=some (e,n)) : -1000<=e/\e<=1000/\n<=l.length:=by
 unfold pexp at h
 split at h
 ·cases h
 ·dsimp only at h
  have h1:=ygr (body l)
  have h2:=yq0 l
  have hd:=ypp (p:=(·==48)) (yoa (body l))
  generalize ((body l).take (cnt (body l))).dropWhile (·==48)=t at *
  have h3:(if t.length<=2 then val t else 1000)<=1000:=by
   split
   ·have:=yft t hd
    have h4:(10:Nat) ^ t.length<=10 ^ 2:=Nat.pow_le_pow_right (by decide) (by assumption)
    omega
   ·exact Nat.le_refl _
  generalize (if t.length<=2 then val t else 1000)=m at *
  injection h with h
  cases hn:isNeg l
  ·rw[hn] at h h2
   simp at h h2
   omega
  ·rw[hn] at h h2
   simp at h h2
   omega
theorem ye9 (S:ByteArray) (n:Nat):bl (S.extract 0 n)=(bl S).take n:=by rw[yc1];simp
theorem yf1 (S:ByteArray) (n:Nat):bl (S.extract n S.size)=(bl S).drop n:=by rw[yc1,List.take_of_length_le (by rw[List.length_drop,yag];exact Nat.le_refl _)]
theorem yig (S:ByteArray) (n:Nat):(S.extract n S.size).size<=S.size:=by rw[<- yag,yf1,List.length_drop,yag];omega
theorem ytz (l:List UInt8):numb l<=l.length:=by
 unfold numb
 have h1:=ygr l
 have h2:=ygr (l.drop (cnt l+1))
 rw[List.length_drop] at h2
 split
 ·rename_i h
  split
  ·have:cnt l<l.length:=by
    rcases Nat.lt_or_ge (cnt l) l.length with h3|h3
    ·exact h3
    ·rw[List.getElem?_eq_none h3] at h
     rcases h.2 with h4|h4<;>cases h4
   omega
  ·exact h1
 ·exact h1
theorem wrd_le (l:List UInt8):wrd l<=l.length:=by unfold wrd;exact(List.takeWhile_sublist _).length_le
theorem ye5 (w:World) (l:List Value) (t:TypeId):∀ j u,l[j]?=some u->(w.alloc (.cells l.toArray t)).cell? ((⟨w.heap.size,0,none⟩:Addr).add j)=some u:=by
 intro j u hu
 have h:=(Bk.new w l.toArray t).cell j
 rw[List.getElem?_toArray,hu] at h
 rcases Nat.eq_zero_or_pos j with h0|h0
 ·subst h0;simpa[Addr.add] using h
 ·have h1:j≠0:=by omega
  simpa[Addr.add,h1] using h
theorem PF.one (x:PF):∀ u ∈ x.L,u.oneCell'=true:=by
 intro u hu
 simp only[PF.L,Sy.L,List.cons_append,List.nil_append,List.mem_cons,List.not_mem_nil,or_false] at hu
 rcases hu with rfl|rfl|rfl|rfl|rfl|rfl|rfl|rfl|rfl|rfl|rfl|rfl|rfl<;>rfl
theorem ygn {α β:Type} (f:α->List β) (l:List α) (x:α):(l++[x]).flatMap f=l.flatMap f++f x:=by simp
theorem ykq (S:ByteArray) (hs:S.size<=1000) (w:World) (hw:Wf w):Calls Tryz.prog 125 #[.string S] w (FacQ (pfac (S.size+1) 1 [] (bl S)) w):=by
 obtain⟨R,hR⟩:∃ R,pfac (S.size+1) 1 [] (bl S)=R:=⟨_,rfl⟩
 rw[hR]
 have HR:=zh hR
 clear hR
 obtain⟨i0,hi,hz0,hz1,hz2⟩:=info_parts Tryz.infoFac
 go_enter Tryz.func125,Tryz.ntmps125
 go_wp2
 go_loopg [0,4,5] (S.size+1) (fun g s out sg wr=>∃ (S':ByteArray) (xs:List PF) (sgn:Int),s=.string S'/\sg=.int .i64 sgn/\(sgn=1\/sgn = -1)/\S'.size<g/\xs.length+S'.size<=1000/\Hid (pfac g sgn xs (bl S')=R)/\Hid (wr.ownsRow w.heap.size 174 13 out xs.length (xs.flatMap PF.L))/\Hid (Below w.heap.size w wr))
 case atStart=>exact⟨S,[],1,rfl,rfl,.inl rfl,Nat.lt_succ_self _,by simpa using hs,HR,zh (World.ownsRow_nil _ _ _ _),zh (Below.refl _ _)⟩
 case round=>
  obtain⟨S',xs,sgn,rfl,rfl,hsg,hlt,hsz,hF,hO,hB⟩:=hrel
  clear HR
  obtain⟨k,rfl⟩:∃ k,gk=k+1:=⟨gk - 1,by omega⟩
  have hs':S'.size<=1000:=by omega
  have sb:(S'.size:Int)<=1000:=by omega
  have NU:=fun w=>yng S' hs' w
  have WD:=fun w=>yr2 S' hs' w
  obtain⟨SB,hSB⟩:∃ b:Bool,(sgn==1)=b:=⟨_,rfl⟩
  have HSB:=zh (show SB=decide (sgn=1) by rw[<- hSB];rfl)
  have hw1:=zh (hw.up hB.out)
  obtain⟨N,hN⟩:∃ N,numb (bl S')=N:=⟨_,rfl⟩
  rw[hN] at NU
  have HN:=zh hN
  clear hN
  go_upto_if 24 with (go_at_call 163;refine(NU _).mono ?_;rintro e w1 ⟨rfl,hb⟩;have b1:=zh hb;clear hb)
  go_cut [0] (fun s wx=>∃ (S2:ByteArray) (x:PF),s=.string S2/\Hid (pstep sgn (bl S')=some (x,bl S2))/\S2.size<=S'.size/\Hid (Bk wx wr.heap.size x.L.toArray 174)/\Hid (Below wr.heap.size wr wx))
  case first=>
   have hz:=zh ((Bk.new wr #[.string ⟨#[]⟩,.string ⟨#[]⟩,.string ⟨#[]⟩,.bool false,.int .i64 0,.int .i64 0,.int .i64 0,.int .i64 0,.int .i64 0,.int .i64 0,.int .i64 0,.int .i64 sgn,.bool SB] 174).up b1.out)
   have bz:=zh (yac (show Below wr.heap.size wr (wr.alloc (.cells #[.string ⟨#[]⟩,.string ⟨#[]⟩,.string ⟨#[]⟩,.bool false,.int .i64 0,.int .i64 0,.int .i64 0,.int .i64 0,.int .i64 0,.int .i64 0,.int .i64 0,.int .i64 sgn,.bool SB] 174)) from(Below.refl _ wr).alloc (Nat.le_refl _) _) b1.out)
   have hNl:=ytz (bl S')
   rw[HN.out,yag] at hNl
   clear NU b1
   by_cases hn:0<N
   ·have hn':(0:Int)<(N:Int):=by omega
    have nb:(N:Int)<=(S'.size:Int):=by omega
    have PA:=fun w' (hb:Below w.heap.size w w')=>ymx (S'.extract 0 N) (by rw[<- yag,ye9,List.length_take,yag];omega) w' (hw.up hb)
    rw[ye9] at PA
    have hql:¬1000<((bl S').take N).length:=by rw[List.length_take,yag];omega
    have hst:pstep sgn (bl S')=match frm ((bl S').take N) with
     | some q=>if short q=true/\q≠0 then some (⟨⟨[],txt q,[48],false,⟨0,0,0,0,0,0,0⟩⟩,sgn,decide (sgn=1)⟩,(bl S').drop N) else none
     | none=>none:=by
     unfold pstep
     rw[HN.out,if_pos hn]
     rfl
    unfold qparse at PA
    rw[if_neg hql] at PA
    clear hql hn WD
    cases hf:frm ((bl S').take N) with
    | none=>
     rw[hf] at PA hst
     have hR:=hF.out
     rw[yd2 hst] at hR
     subst hR
     clear hf hst hF
     dsimp only at PA
     go_wp2_with (go_at_call 164;refine(PA _ (yac hB.out bz.out)).mono ?_;rintro e w2 ⟨rfl,hb⟩;have hz2:=zh (hz.out.up hb);have bz2:=zh (yac bz.out hb);obtain⟨c0,c1,c2,c3,c4,c5,c6,c7,c8,c9,c10,c11,c12⟩:=cells13 (show Bk w2 wr.heap.size #[.string ⟨#[]⟩,.string ⟨#[]⟩,.string ⟨#[]⟩,.bool false,.int .i64 0,.int .i64 0,.int .i64 0,.int .i64 0,.int .i64 0,.int .i64 0,.int .i64 0,.int .i64 sgn,.bool SB] _ from hz2.out);obtain⟨f0,f1,f2,f3,f4,f5,f6,f7,f8,f9,f10,f11,f12⟩:=hz2.out.frozen13;clear hb)
     go_ret2
     exact⟨rfl,yac hB.out bz2.out⟩
    | some q=>
     rw[hf] at PA hst
     clear hf
     dsimp only at PA hst
     by_cases hsq:short q=true
     ·rw[if_pos hsq] at PA
      dsimp only at PA
      by_cases hq0:q=0
      ·rw[if_neg (fun h=>h.2 hq0)] at hst
       have hR:=hF.out
       rw[yd2 hst] at hR
       subst hR hq0
       rw[txt_zero] at PA
       clear hst hF hsq
       go_wp2_with (go_at_call 164;refine(PA _ (yac hB.out bz.out)).mono ?_;rintro e w2 ⟨rfl,hb⟩;have hz2:=zh (hz.out.up hb);have bz2:=zh (yac bz.out hb);obtain⟨c0,c1,c2,c3,c4,c5,c6,c7,c8,c9,c10,c11,c12⟩:=cells13 (show Bk w2 wr.heap.size #[.string ⟨#[]⟩,.string ⟨#[]⟩,.string ⟨#[]⟩,.bool false,.int .i64 0,.int .i64 0,.int .i64 0,.int .i64 0,.int .i64 0,.int .i64 0,.int .i64 0,.int .i64 sgn,.bool SB] _ from hz2.out);obtain⟨f0,f1,f2,f3,f4,f5,f6,f7,f8,f9,f10,f11,f12⟩:=hz2.out.frozen13;clear hb)
       go_ret2
       exact⟨rfl,yac hB.out bz2.out⟩
      ·rw[if_pos ⟨hsq,hq0⟩] at hst
       have hne:txt q≠[48]:=fun h=>hq0 (ypu (h.trans txt_zero.symm))
       obtain⟨T,hT⟩:∃ T:ByteArray,(⟨(txt q).toArray⟩:ByteArray)=T:=⟨_,rfl⟩
       rw[hT] at PA
       have hTe:(T.toList==[48])=false:=by rw[eqS,<- hT,bl_mk];exact decide_eq_false hne
       have hst2:=zh hst
       have HT:=zh hT
       clear hst hF hsq hq0 hne hT
       go_wp2_with (go_at_call 164;refine(PA _ (yac hB.out bz.out)).mono ?_;rintro e w2 ⟨rfl,hb⟩;have hz2:=zh (hz.out.up hb);have bz2:=zh (yac bz.out hb);obtain⟨c0,c1,c2,c3,c4,c5,c6,c7,c8,c9,c10,c11,c12⟩:=cells13 (show Bk w2 wr.heap.size #[.string ⟨#[]⟩,.string ⟨#[]⟩,.string ⟨#[]⟩,.bool false,.int .i64 0,.int .i64 0,.int .i64 0,.int .i64 0,.int .i64 0,.int .i64 0,.int .i64 0,.int .i64 sgn,.bool SB] _ from hz2.out);obtain⟨f0,f1,f2,f3,f4,f5,f6,f7,f8,f9,f10,f11,f12⟩:=hz2.out.frozen13;clear hb)
       go_meet
       have hbk:=Bk.put_mid [.string ⟨#[]⟩,.string T,.string ⟨#[48]⟩,.bool false,.int .i64 0,.int .i64 0,.int .i64 0,.int .i64 0,.int .i64 0,.int .i64 0,.int .i64 0] [] [.string ⟨#[]⟩,.string ⟨#[]⟩,.string ⟨#[]⟩,.bool false,.int .i64 0,.int .i64 0,.int .i64 0,.int .i64 0,.int .i64 0,.int .i64 0,.int .i64 0] [.int .i64 sgn,.bool SB] hz2.out rfl
       rw[<- yf1] at hst2
       refine⟨S'.extract N S'.size,⟨⟨[],txt q,[48],false,⟨0,0,0,0,0,0,0⟩⟩,sgn,decide (sgn=1)⟩,rfl,hst2,yig _ _,zh ?_,zh (ya8 bz2.out (Nat.le_refl _))⟩
       have e1:=HSB.out
       have e2:=HT.out
       subst e1 e2
       exact hbk
     ·rw[if_neg hsq] at PA
      rw[if_neg (fun h=>hsq h.1)] at hst
      have hR:=hF.out
      rw[yd2 hst] at hR
      subst hR
      clear hst hF hsq
      dsimp only at PA
      go_wp2_with (go_at_call 164;refine(PA _ (yac hB.out bz.out)).mono ?_;rintro e w2 ⟨rfl,hb⟩;have hz2:=zh (hz.out.up hb);have bz2:=zh (yac bz.out hb);obtain⟨c0,c1,c2,c3,c4,c5,c6,c7,c8,c9,c10,c11,c12⟩:=cells13 (show Bk w2 wr.heap.size #[.string ⟨#[]⟩,.string ⟨#[]⟩,.string ⟨#[]⟩,.bool false,.int .i64 0,.int .i64 0,.int .i64 0,.int .i64 0,.int .i64 0,.int .i64 0,.int .i64 0,.int .i64 sgn,.bool SB] _ from hz2.out);obtain⟨f0,f1,f2,f3,f4,f5,f6,f7,f8,f9,f10,f11,f12⟩:=hz2.out.frozen13;clear hb)
      go_ret2
      exact⟨rfl,yac hB.out bz2.out⟩
   ·have hn':¬(0:Int)<(N:Int):=by omega
    obtain⟨M,hM⟩:∃ M,wrd (bl S')=M:=⟨_,rfl⟩
    have hMl:=wrd_le (bl S')
    rw[hM,yag] at hMl
    have mb:(M:Int)<=(S'.size:Int):=by omega
    rw[hM] at WD
    have FD:=fun w' (hb:Below w.heap.size w w')=>yrs (S'.extract 0 M) (by rw[<- yag,ye9,List.length_take,yag];omega) w' (hw.up hb)
    obtain⟨U,hU⟩:∃ U:ByteArray,S'.extract M S'.size=U:=⟨_,rfl⟩
    have hUl:(bl S').drop M=bl U:=by rw[<- hU,yf1]
    have hUs:U.size<=S'.size:=by rw[<- hU];exact yig _ _
    have hst:pstep sgn (bl S')=match sfind ((bl S').take M) with
     | none=>none
     | some y=>if (bl U).head?=some 94 then match pexp (bl U).tail with
       | none=>none
       | some (e,n)=>some (⟨y,sgn*e,false⟩,(bl U).tail.drop n)
      else some (⟨y,sgn,decide (sgn=1)⟩,bl U):=by
     unfold pstep
     rw[HN.out,if_neg hn,hM,hUl]
     rfl
    rw[ye9] at FD
    clear hM hUl hn
    cases hf:sfind ((bl S').take M) with
    | none=>
     rw[hf] at FD hst
     have hR:=hF.out
     rw[yd2 hst] at hR
     subst hR
     clear hf hst hF
     have FD:=fun w' hb=>(FD w' hb).mono fun e w2 h=>(show e=Ending.returned (.tuple #[.agg #[.string ⟨#[]⟩,.string ⟨#[]⟩,.string ⟨#[]⟩,.bool false,.int .i64 0,.int .i64 0,.int .i64 0,.int .i64 0,.int .i64 0,.int .i64 0,.int .i64 0],.bool false])/\Below w'.heap.size w' w2 from h)
     go_wp2_with (first|(go_at_call 165;refine(WD _).mono ?_;rintro e wq ⟨rfl,rfl⟩)|(go_at_call 166;refine(FD _ (yac hB.out bz.out)).mono ?_;rintro e w3 ⟨rfl,hb⟩;have hz3:=zh (hz.out.up hb);have bz3:=zh (yac bz.out hb);obtain⟨c0,c1,c2,c3,c4,c5,c6,c7,c8,c9,c10,c11,c12⟩:=cells13 (show Bk w3 wr.heap.size #[.string ⟨#[]⟩,.string ⟨#[]⟩,.string ⟨#[]⟩,.bool false,.int .i64 0,.int .i64 0,.int .i64 0,.int .i64 0,.int .i64 0,.int .i64 0,.int .i64 0,.int .i64 sgn,.bool SB] _ from hz3.out);obtain⟨f0,f1,f2,f3,f4,f5,f6,f7,f8,f9,f10,f11,f12⟩:=hz3.out.frozen13;have hl3:wr.heap.size<w3.heap.size:=hz3.out.lt;clear hb))
     go_ret2
     exact⟨rfl,yaa (yac hB.out bz3.out) _⟩
    | some y=>
     obtain⟨n,f,o,b,p0,p1,p2,p3,p4,p5,p6⟩:=y
     rw[hf] at FD hst
     have FD:=fun w' hb=>(FD w' hb).mono fun e w2 h=>(show e=Ending.returned (.tuple #[.agg #[.string ⟨n.toArray⟩,.string ⟨f.toArray⟩,.string ⟨o.toArray⟩,.bool b,.int .i64 p0,.int .i64 p1,.int .i64 p2,.int .i64 p3,.int .i64 p4,.int .i64 p5,.int .i64 p6],.bool true])/\Below w'.heap.size w' w2 from h)
     have CC:=fun w=>yje U w
     clear hf
     dsimp only at hst
     by_cases hh:(bl U).head?=some 94
     ·obtain⟨V,hV⟩:∃ V:ByteArray,(⟨(bl U).tail.toArray⟩:ByteArray)=V:=⟨_,rfl⟩
      have hVb:(bl U).tail=bl V:=by rw[<- hV];rfl
      rw[if_pos hh,hV,decide_eq_true hh] at CC
      rw[if_pos hh,hVb] at hst
      have hVs:V.size<=U.size:=by
       have:=congrArg List.length hVb
       rw[List.length_tail,yag,yag] at this
       omega
      have EX:=fun w' (hb:Below w.heap.size w w')=>yjn V (by omega) w' (hw.up hb)
      clear hV hVb hh
      cases hp:pexp (bl V) with
      | none=>
       rw[hp] at EX hst
       have hR:=hF.out
       rw[yd2 hst] at hR
       subst hR
       clear hp hst hF
       unfold expV at EX
       dsimp only at EX
       go_wp2_with (first|(go_at_call 165;refine(WD _).mono ?_;rintro e wq ⟨rfl,rfl⟩)|(go_at_call 166;refine(FD _ (yac hB.out bz.out)).mono ?_;rintro e w3 ⟨rfl,hb⟩;have hz3:=zh (hz.out.up hb);have bz3:=zh (yac bz.out hb);obtain⟨c0,c1,c2,c3,c4,c5,c6,c7,c8,c9,c10,c11,c12⟩:=cells13 (show Bk w3 wr.heap.size #[.string ⟨#[]⟩,.string ⟨#[]⟩,.string ⟨#[]⟩,.bool false,.int .i64 0,.int .i64 0,.int .i64 0,.int .i64 0,.int .i64 0,.int .i64 0,.int .i64 0,.int .i64 sgn,.bool SB] _ from hz3.out);obtain⟨f0,f1,f2,f3,f4,f5,f6,f7,f8,f9,f10,f11,f12⟩:=hz3.out.frozen13;have hl3:wr.heap.size<w3.heap.size:=hz3.out.lt;have bput:=zh ((Bk.put_mid [.string ⟨n.toArray⟩,.string ⟨f.toArray⟩,.string ⟨o.toArray⟩,.bool b,.int .i64 p0,.int .i64 p1,.int .i64 p2,.int .i64 p3,.int .i64 p4,.int .i64 p5,.int .i64 p6] [] [.string ⟨#[]⟩,.string ⟨#[]⟩,.string ⟨#[]⟩,.bool false,.int .i64 0,.int .i64 0,.int .i64 0,.int .i64 0,.int .i64 0,.int .i64 0,.int .i64 0] [.int .i64 sgn,.bool SB] hz3.out rfl).alloc (D:=#[.string ⟨n.toArray⟩,.string ⟨f.toArray⟩,.string ⟨o.toArray⟩,.bool b,.int .i64 p0,.int .i64 p1,.int .i64 p2,.int .i64 p3,.int .i64 p4,.int .i64 p5,.int .i64 p6]) (u:=172));have bq:=zh (yaa (ya8 (v0:=.string ⟨n.toArray⟩) (v1:=.string ⟨f.toArray⟩) (v2:=.string ⟨o.toArray⟩) (v3:=.bool b) (v4:=.int .i64 p0) (v5:=.int .i64 p1) (v6:=.int .i64 p2) (v7:=.int .i64 p3) (v8:=.int .i64 p4) (v9:=.int .i64 p5) (v10:=.int .i64 p6) bz3.out (Nat.le_refl wr.heap.size)) (.cells #[.string ⟨n.toArray⟩,.string ⟨f.toArray⟩,.string ⟨o.toArray⟩,.bool b,.int .i64 p0,.int .i64 p1,.int .i64 p2,.int .i64 p3,.int .i64 p4,.int .i64 p5,.int .i64 p6] 172));clear hb)|(go_at_call 34;refine(CC _).mono ?_;rintro e wq ⟨rfl,rfl⟩)|(go_at_call 167;refine(EX _ (yac hB.out bq.out)).mono ?_;rintro e w5 ⟨rfl,hb⟩;have b5:=zh ((show Bk _ wr.heap.size #[.string ⟨n.toArray⟩,.string ⟨f.toArray⟩,.string ⟨o.toArray⟩,.bool b,.int .i64 p0,.int .i64 p1,.int .i64 p2,.int .i64 p3,.int .i64 p4,.int .i64 p5,.int .i64 p6,.int .i64 sgn,.bool SB] 174 from bput.out).up hb);have bz5:=zh (yac bq.out hb);clear c0 c1 c2 c3 c4 c5 c6 c7 c8 c9 c10 c11 c12 f0 f1 f2 f3 f4 f5 f6 f7 f8 f9 f10 f11 f12;obtain⟨c0,c1,c2,c3,c4,c5,c6,c7,c8,c9,c10,c11,c12⟩:=cells13 (show Bk w5 wr.heap.size #[.string ⟨n.toArray⟩,.string ⟨f.toArray⟩,.string ⟨o.toArray⟩,.bool b,.int .i64 p0,.int .i64 p1,.int .i64 p2,.int .i64 p3,.int .i64 p4,.int .i64 p5,.int .i64 p6,.int .i64 sgn,.bool SB] _ from b5.out);obtain⟨f0,f1,f2,f3,f4,f5,f6,f7,f8,f9,f10,f11,f12⟩:=b5.out.frozen13;clear hb))
       go_ret2
       exact⟨rfl,yac hB.out bz5.out⟩
      | some en=>
       obtain⟨e,m⟩:=en
       obtain⟨x1,x2,x3⟩:=yks hp
       rw[yag] at x3
       rw[hp] at EX hst
       unfold expV at EX
       dsimp only at EX hst
       have mv:(m:Int)<=(V.size:Int):=by omega
       have vs:(V.size:Int)<=1000:=by omega
       rw[<- yf1] at hst
       have HST:=zh hst
       clear hp hst hF
       obtain⟨d,hd⟩:∃ d,sgn*e=d:=⟨_,rfl⟩
       have d1 : -1000<=d/\d<=1000:=by rcases hsg with h|h<;>subst h<;>omega
       obtain⟨d1,d2⟩:=d1
       have HST2:=HST.out
       rw[hd] at HST2
       have HST3:=zh HST2
       clear HST HST2 hsg
       go_wp2_with (first|(go_at_call 165;refine(WD _).mono ?_;rintro e wq ⟨rfl,rfl⟩)|(go_at_call 166;refine(FD _ (yac hB.out bz.out)).mono ?_;rintro e w3 ⟨rfl,hb⟩;have hz3:=zh (hz.out.up hb);have bz3:=zh (yac bz.out hb);obtain⟨c0,c1,c2,c3,c4,c5,c6,c7,c8,c9,c10,c11,c12⟩:=cells13 (show Bk w3 wr.heap.size #[.string ⟨#[]⟩,.string ⟨#[]⟩,.string ⟨#[]⟩,.bool false,.int .i64 0,.int .i64 0,.int .i64 0,.int .i64 0,.int .i64 0,.int .i64 0,.int .i64 0,.int .i64 sgn,.bool SB] _ from hz3.out);obtain⟨f0,f1,f2,f3,f4,f5,f6,f7,f8,f9,f10,f11,f12⟩:=hz3.out.frozen13;have hl3:wr.heap.size<w3.heap.size:=hz3.out.lt;have bput:=zh ((Bk.put_mid [.string ⟨n.toArray⟩,.string ⟨f.toArray⟩,.string ⟨o.toArray⟩,.bool b,.int .i64 p0,.int .i64 p1,.int .i64 p2,.int .i64 p3,.int .i64 p4,.int .i64 p5,.int .i64 p6] [] [.string ⟨#[]⟩,.string ⟨#[]⟩,.string ⟨#[]⟩,.bool false,.int .i64 0,.int .i64 0,.int .i64 0,.int .i64 0,.int .i64 0,.int .i64 0,.int .i64 0] [.int .i64 sgn,.bool SB] hz3.out rfl).alloc (D:=#[.string ⟨n.toArray⟩,.string ⟨f.toArray⟩,.string ⟨o.toArray⟩,.bool b,.int .i64 p0,.int .i64 p1,.int .i64 p2,.int .i64 p3,.int .i64 p4,.int .i64 p5,.int .i64 p6]) (u:=172));have bq:=zh (yaa (ya8 (v0:=.string ⟨n.toArray⟩) (v1:=.string ⟨f.toArray⟩) (v2:=.string ⟨o.toArray⟩) (v3:=.bool b) (v4:=.int .i64 p0) (v5:=.int .i64 p1) (v6:=.int .i64 p2) (v7:=.int .i64 p3) (v8:=.int .i64 p4) (v9:=.int .i64 p5) (v10:=.int .i64 p6) bz3.out (Nat.le_refl wr.heap.size)) (.cells #[.string ⟨n.toArray⟩,.string ⟨f.toArray⟩,.string ⟨o.toArray⟩,.bool b,.int .i64 p0,.int .i64 p1,.int .i64 p2,.int .i64 p3,.int .i64 p4,.int .i64 p5,.int .i64 p6] 172));clear hb)|(go_at_call 34;refine(CC _).mono ?_;rintro e wq ⟨rfl,rfl⟩)|(go_at_call 167;refine(EX _ (yac hB.out bq.out)).mono ?_;rintro e w5 ⟨rfl,hb⟩;have b5:=zh ((show Bk _ wr.heap.size #[.string ⟨n.toArray⟩,.string ⟨f.toArray⟩,.string ⟨o.toArray⟩,.bool b,.int .i64 p0,.int .i64 p1,.int .i64 p2,.int .i64 p3,.int .i64 p4,.int .i64 p5,.int .i64 p6,.int .i64 sgn,.bool SB] 174 from bput.out).up hb);have bz5:=zh (yac bq.out hb);clear c0 c1 c2 c3 c4 c5 c6 c7 c8 c9 c10 c11 c12 f0 f1 f2 f3 f4 f5 f6 f7 f8 f9 f10 f11 f12;obtain⟨c0,c1,c2,c3,c4,c5,c6,c7,c8,c9,c10,c11,c12⟩:=cells13 (show Bk w5 wr.heap.size #[.string ⟨n.toArray⟩,.string ⟨f.toArray⟩,.string ⟨o.toArray⟩,.bool b,.int .i64 p0,.int .i64 p1,.int .i64 p2,.int .i64 p3,.int .i64 p4,.int .i64 p5,.int .i64 p6,.int .i64 sgn,.bool SB] _ from b5.out);obtain⟨f0,f1,f2,f3,f4,f5,f6,f7,f8,f9,f10,f11,f12⟩:=b5.out.frozen13;clear hb))
       go_meet
       refine⟨V.extract m V.size,⟨⟨n,f,o,b,⟨p0,p1,p2,p3,p4,p5,p6⟩⟩,d,false⟩,rfl,HST3,Nat.le_trans (yig _ _) (Nat.le_trans hVs hUs),zh ?_,zh ((bz5.out.setCell (Nat.le_refl _) _).setCell (Nat.le_refl _) _)⟩
       exact(b5.out.set (i:=11) (.int .i64 d)).set (i:=12) (.bool false)
     ·rw[if_neg hh,decide_eq_false hh] at CC
      rw[if_neg hh] at hst
      have hst2:=zh hst
      clear hst hF hh
      go_wp2_with (first|(go_at_call 165;refine(WD _).mono ?_;rintro e wq ⟨rfl,rfl⟩)|(go_at_call 166;refine(FD _ (yac hB.out bz.out)).mono ?_;rintro e w3 ⟨rfl,hb⟩;have hz3:=zh (hz.out.up hb);have bz3:=zh (yac bz.out hb);obtain⟨c0,c1,c2,c3,c4,c5,c6,c7,c8,c9,c10,c11,c12⟩:=cells13 (show Bk w3 wr.heap.size #[.string ⟨#[]⟩,.string ⟨#[]⟩,.string ⟨#[]⟩,.bool false,.int .i64 0,.int .i64 0,.int .i64 0,.int .i64 0,.int .i64 0,.int .i64 0,.int .i64 0,.int .i64 sgn,.bool SB] _ from hz3.out);obtain⟨f0,f1,f2,f3,f4,f5,f6,f7,f8,f9,f10,f11,f12⟩:=hz3.out.frozen13;have hl3:wr.heap.size<w3.heap.size:=hz3.out.lt;have bput:=zh ((Bk.put_mid [.string ⟨n.toArray⟩,.string ⟨f.toArray⟩,.string ⟨o.toArray⟩,.bool b,.int .i64 p0,.int .i64 p1,.int .i64 p2,.int .i64 p3,.int .i64 p4,.int .i64 p5,.int .i64 p6] [] [.string ⟨#[]⟩,.string ⟨#[]⟩,.string ⟨#[]⟩,.bool false,.int .i64 0,.int .i64 0,.int .i64 0,.int .i64 0,.int .i64 0,.int .i64 0,.int .i64 0] [.int .i64 sgn,.bool SB] hz3.out rfl).alloc (D:=#[.string ⟨n.toArray⟩,.string ⟨f.toArray⟩,.string ⟨o.toArray⟩,.bool b,.int .i64 p0,.int .i64 p1,.int .i64 p2,.int .i64 p3,.int .i64 p4,.int .i64 p5,.int .i64 p6]) (u:=172));have bq:=zh (yaa (ya8 (v0:=.string ⟨n.toArray⟩) (v1:=.string ⟨f.toArray⟩) (v2:=.string ⟨o.toArray⟩) (v3:=.bool b) (v4:=.int .i64 p0) (v5:=.int .i64 p1) (v6:=.int .i64 p2) (v7:=.int .i64 p3) (v8:=.int .i64 p4) (v9:=.int .i64 p5) (v10:=.int .i64 p6) bz3.out (Nat.le_refl wr.heap.size)) (.cells #[.string ⟨n.toArray⟩,.string ⟨f.toArray⟩,.string ⟨o.toArray⟩,.bool b,.int .i64 p0,.int .i64 p1,.int .i64 p2,.int .i64 p3,.int .i64 p4,.int .i64 p5,.int .i64 p6] 172));clear hb)|(go_at_call 34;refine(CC _).mono ?_;rintro e wq ⟨rfl,rfl⟩))
      go_meet
      refine⟨U,⟨⟨n,f,o,b,⟨p0,p1,p2,p3,p4,p5,p6⟩⟩,sgn,decide (sgn=1)⟩,rfl,hst2,hUs,zh ?_,bq⟩
      have e1:=HSB.out
      subst e1
      exact bput.out
  case rest=>
   obtain⟨S2,x,rfl,hP,hle,hBk,hBx⟩:=hcut
   obtain⟨⟨n,f,o,b,⟨p0,p1,p2,p3,p4,p5,p6⟩⟩,e,br⟩:=x
   have hO2:=zh (yal hO.out hBx.out)
   have hB2:=zh (yac hB.out hBx.out)
   obtain⟨c0,c1,c2,c3,c4,c5,c6,c7,c8,c9,c10,c11,c12⟩:=cells13 (show Bk wc wr.heap.size #[.string ⟨n.toArray⟩,.string ⟨f.toArray⟩,.string ⟨o.toArray⟩,.bool b,.int .i64 p0,.int .i64 p1,.int .i64 p2,.int .i64 p3,.int .i64 p4,.int .i64 p5,.int .i64 p6,.int .i64 e,.bool br] _ from hBk.out)
   have hlx:wr.heap.size<wc.heap.size:=hBk.out.lt
   have sb2:(S2.size:Int)<=1000:=by omega
   have hes:S2.toList.isEmpty=decide (bl S2=[]):=emptyS S2
   by_cases hE:bl S2=[]
   ·rw[decide_eq_true hE] at hes
    have hR:=hF.out
    rw[hE] at hP
    rw[yqw hP.out] at hR
    subst hR
    clear hP hF hE
    go_wp2_with (at_builtin;refine wpList_append_own_at _ rfl (.tmp 82) (.tmp 84) _ rfl w.heap.size 174 i0 (.agg #[.string ⟨#[]⟩,.string ⟨#[]⟩,.string ⟨#[]⟩,.bool false,.int .i64 0,.int .i64 0,.int .i64 0,.int .i64 0,.int .i64 0,.int .i64 0,.int .i64 0,.int .i64 0,.bool false]) 13 128 Tryz.underlying168 hi hz0 hz1 hz2 rfl (by decide) _ _ _ rfl (yal hO2.out ((Below.refl _ _).alloc (Nat.le_refl _) _)) ⟨wc.heap.size,0,none⟩ 1 1 [.string ⟨n.toArray⟩,.string ⟨f.toArray⟩,.string ⟨o.toArray⟩,.bool b,.int .i64 p0,.int .i64 p1,.int .i64 p2,.int .i64 p3,.int .i64 p4,.int .i64 p5,.int .i64 p6,.int .i64 e,.bool br] rfl rfl (ye5 _ _ _) (PF.one (⟨⟨n,f,o,b,⟨p0,p1,p2,p3,p4,p5,p6⟩⟩,e,br⟩:PF)) (by unfold maxLen;omega) (by omega) (yaa hB2.out _).size ?_;intro v2 w2 a2 g2 m2 l2;have B2:=zh (yc0 (yal hO2.out ((Below.refl _ _).alloc (Nat.le_refl _) _)) (yaa hB2.out _) g2);have A2:=zh a2;clear a2 g2 m2 l2)
    go_ret2
    refine⟨v2,rfl,?_,B2.out⟩
    have h:=A2.out
    rw[ygn,List.length_append]
    exact h
   ·rw[decide_eq_false hE] at hes
    have h0:0<S2.size:=by
     rcases Nat.eq_zero_or_pos S2.size with h|h
     ·exact absurd (List.length_eq_zero_iff.1 (by rw[yag];exact h)) hE
     ·exact h
    have hi0:(0:Int)<(S2.size:Int):=by omega
    have hi1:(1:Int)<=(S2.size:Int):=by omega
    obtain⟨T2,hT⟩:∃ T:ByteArray,S2.extract 1 S2.size=T:=⟨_,rfl⟩
    have hTl:bl S2=S2[0]::bl T2:=by
     have h1:=bl_at S2 0 h0
     cases hl:bl S2 with
     | nil=>exact absurd hl hE
     | cons c r=>
      rw[hl] at h1
      injection h1 with h1
      rw[h1,<- hT,yc1,hl,List.take_of_length_le (by rw[List.length_drop,<- hl,yag];omega)]
      rfl
    have hTs:T2.size+1=S2.size:=by
     have:=congrArg List.length hTl
     rw[yag,List.length_cons,yag] at this
     omega
    have hR:=hF.out
    rw[hTl] at hP
    rw[ypz hP.out] at hR
    clear hP hF hE hTl
    have hlen:(xs++[(⟨⟨n,f,o,b,⟨p0,p1,p2,p3,p4,p5,p6⟩⟩,e,br⟩:PF)]).length=xs.length+1:=by simp
    by_cases h32:(S2[0].toNat:Int)=32
    ·rw[if_pos ((yau S2[0] 32).1 h32)] at hR
     have HR:=zh hR
     clear hR
     go_wp2_with (at_builtin;refine wpList_append_own_at _ rfl (.tmp 82) (.tmp 84) _ rfl w.heap.size 174 i0 (.agg #[.string ⟨#[]⟩,.string ⟨#[]⟩,.string ⟨#[]⟩,.bool false,.int .i64 0,.int .i64 0,.int .i64 0,.int .i64 0,.int .i64 0,.int .i64 0,.int .i64 0,.int .i64 0,.bool false]) 13 128 Tryz.underlying168 hi hz0 hz1 hz2 rfl (by decide) _ _ _ rfl (yal hO2.out ((Below.refl _ _).alloc (Nat.le_refl _) _)) ⟨wc.heap.size,0,none⟩ 1 1 [.string ⟨n.toArray⟩,.string ⟨f.toArray⟩,.string ⟨o.toArray⟩,.bool b,.int .i64 p0,.int .i64 p1,.int .i64 p2,.int .i64 p3,.int .i64 p4,.int .i64 p5,.int .i64 p6,.int .i64 e,.bool br] rfl rfl (ye5 _ _ _) (PF.one (⟨⟨n,f,o,b,⟨p0,p1,p2,p3,p4,p5,p6⟩⟩,e,br⟩:PF)) (by unfold maxLen;omega) (by omega) (yaa hB2.out _).size ?_;intro v2 w2 a2 g2 m2 l2;have B2:=zh (yc0 (yal hO2.out ((Below.refl _ _).alloc (Nat.le_refl _) _)) (yaa hB2.out _) g2);have A2:=zh a2;clear a2 g2 m2 l2)
     go_roundg k
     case measure=>omega
     case rel=>
      refine⟨T2,_,1,rfl,rfl,.inl rfl,by omega,by rw[hlen];omega,HR,zh ?_,B2⟩
      have h:=A2.out
      rw[ygn,hlen]
      exact h
    ·rw[if_neg (fun h=>h32 ((yau S2[0] 32).2 h))] at hR
     have hb32:((S2[0].toNat:Int)==32)=false:=by rw[beq_eq_false_iff_ne];exact h32
     by_cases h47:(S2[0].toNat:Int)=47
     ·rw[if_pos ((yau S2[0] 47).1 h47)] at hR
      have HR:=zh hR
      clear hR
      go_wp2_with (at_builtin;refine wpList_append_own_at _ rfl (.tmp 82) (.tmp 84) _ rfl w.heap.size 174 i0 (.agg #[.string ⟨#[]⟩,.string ⟨#[]⟩,.string ⟨#[]⟩,.bool false,.int .i64 0,.int .i64 0,.int .i64 0,.int .i64 0,.int .i64 0,.int .i64 0,.int .i64 0,.int .i64 0,.bool false]) 13 128 Tryz.underlying168 hi hz0 hz1 hz2 rfl (by decide) _ _ _ rfl (yal hO2.out ((Below.refl _ _).alloc (Nat.le_refl _) _)) ⟨wc.heap.size,0,none⟩ 1 1 [.string ⟨n.toArray⟩,.string ⟨f.toArray⟩,.string ⟨o.toArray⟩,.bool b,.int .i64 p0,.int .i64 p1,.int .i64 p2,.int .i64 p3,.int .i64 p4,.int .i64 p5,.int .i64 p6,.int .i64 e,.bool br] rfl rfl (ye5 _ _ _) (PF.one (⟨⟨n,f,o,b,⟨p0,p1,p2,p3,p4,p5,p6⟩⟩,e,br⟩:PF)) (by unfold maxLen;omega) (by omega) (yaa hB2.out _).size ?_;intro v2 w2 a2 g2 m2 l2;have B2:=zh (yc0 (yal hO2.out ((Below.refl _ _).alloc (Nat.le_refl _) _)) (yaa hB2.out _) g2);have A2:=zh a2;clear a2 g2 m2 l2)
      go_roundg k
      case measure=>omega
      case rel=>
       refine⟨T2,_,-1,rfl,rfl,.inr rfl,by omega,by rw[hlen];omega,HR,zh ?_,B2⟩
       have h:=A2.out
       rw[ygn,hlen]
       exact h
     ·rw[if_neg (fun h=>h47 ((yau S2[0] 47).2 h))] at hR
      have hb47:((S2[0].toNat:Int)==47)=false:=by rw[beq_eq_false_iff_ne];exact h47
      subst hR
      go_wp2_with (at_builtin;refine wpList_append_own_at _ rfl (.tmp 82) (.tmp 84) _ rfl w.heap.size 174 i0 (.agg #[.string ⟨#[]⟩,.string ⟨#[]⟩,.string ⟨#[]⟩,.bool false,.int .i64 0,.int .i64 0,.int .i64 0,.int .i64 0,.int .i64 0,.int .i64 0,.int .i64 0,.int .i64 0,.bool false]) 13 128 Tryz.underlying168 hi hz0 hz1 hz2 rfl (by decide) _ _ _ rfl (yal hO2.out ((Below.refl _ _).alloc (Nat.le_refl _) _)) ⟨wc.heap.size,0,none⟩ 1 1 [.string ⟨n.toArray⟩,.string ⟨f.toArray⟩,.string ⟨o.toArray⟩,.bool b,.int .i64 p0,.int .i64 p1,.int .i64 p2,.int .i64 p3,.int .i64 p4,.int .i64 p5,.int .i64 p6,.int .i64 e,.bool br] rfl rfl (ye5 _ _ _) (PF.one (⟨⟨n,f,o,b,⟨p0,p1,p2,p3,p4,p5,p6⟩⟩,e,br⟩:PF)) (by unfold maxLen;omega) (by omega) (yaa hB2.out _).size ?_;intro v2 w2 a2 g2 m2 l2;have B2:=zh (yc0 (yal hO2.out ((Below.refl _ _).alloc (Nat.le_refl _) _)) (yaa hB2.out _) g2);have A2:=zh a2;clear a2 g2 m2 l2)
      go_ret2
      exact⟨rfl,B2.out⟩
def PA1 (w w':World) (v:Value) (xs:List PF):Prop:=Bk w' w.heap.size u0C 134/\w'.ownsRow (w.heap.size+1) 174 13 v xs.length (xs.flatMap PF.L)/\Below w.heap.size w w'
theorem PA1.up {w w1 w2:World} {v:Value} {xs:List PF} (h:PA1 w w1 v xs) (hb:Below w1.heap.size w1 w2):PA1 w w2 v xs:=⟨h.1.up hb,yal h.2.1 hb,yac h.2.2 hb⟩
theorem PA1.grow {w w1:World} {v:Value} {xs:List PF} (h:PA1 w w1 v xs) (C:Array Value) (t:TypeId):PA1 w (w1.alloc (.cells C t)) v xs:=h.up ((Below.refl _ _).alloc (Nat.le_refl _) _)
theorem ygc {w:World} {base g cap k:Nat} {xs:List PF} {n f o:List UInt8} {b br:Bool} {p0 p1 p2 p3 p4 p5 p6 e:Int} (h:w.ownsRow base 174 13 (.slice (some ⟨g,0,none⟩) xs.length cap) xs.length (xs.flatMap PF.L)) (hk:xs[k]?=some ⟨⟨n,f,o,b,⟨p0,p1,p2,p3,p4,p5,p6⟩⟩,e,br⟩) :
  w.cell? ⟨g,k*13,none⟩=some (.string ⟨n.toArray⟩)/\w.cell? ⟨g,k*13+1,none⟩=some (.string ⟨f.toArray⟩)/\w.cell? ⟨g,k*13+2,none⟩=some (.string ⟨o.toArray⟩)/\w.cell? ⟨g,k*13+3,none⟩=some (.bool b)/\w.cell? ⟨g,k*13+4,none⟩=some (.int .i64 p0)/\w.cell? ⟨g,k*13+5,none⟩=some (.int .i64 p1)/\w.cell? ⟨g,k*13+6,none⟩=some (.int .i64 p2)/\w.cell? ⟨g,k*13+7,none⟩=some (.int .i64 p3)/\w.cell? ⟨g,k*13+8,none⟩=some (.int .i64 p4)/\w.cell? ⟨g,k*13+9,none⟩=some (.int .i64 p5)/\w.cell? ⟨g,k*13+10,none⟩=some (.int .i64 p6)/\w.cell? ⟨g,k*13+11,none⟩=some (.int .i64 e)/\w.cell? ⟨g,k*13+12,none⟩=some (.bool br):=by
 have key:∀ j u,j<13->(PF.L ⟨⟨n,f,o,b,⟨p0,p1,p2,p3,p4,p5,p6⟩⟩,e,br⟩)[j]?=some u->w.cell? ⟨g,k*13+j,none⟩=some u:=fun j u hj hu=>ypw h (by rw[yla PF.len hk hj];exact hu)
 exact⟨key 0 _ (by decide) rfl,key 1 _ (by decide) rfl,key 2 _ (by decide) rfl,key 3 _ (by decide) rfl,key 4 _ (by decide) rfl,key 5 _ (by decide) rfl,key 6 _ (by decide) rfl,key 7 _ (by decide) rfl,key 8 _ (by decide) rfl,key 9 _ (by decide) rfl,key 10 _ (by decide) rfl,key 11 _ (by decide) rfl,key 12 _ (by decide) rfl⟩
theorem ytb {w:World} {base n:Nat} {e:TypeId} {v:Value} {xs:List Value} (h:w.ownsRow base e 13 v n xs):n<=9223372036854775807:=by
 rcases h.2 with ⟨_,h0⟩|⟨g,cap,cur,_,_,_,h1,h2,_⟩
 ·omega
 ·unfold maxLen at h2;omega
theorem yok {α:Type} {p:α->Bool} {l:List α} {k:Nat} {x:α} (h:l[k]?=some x) (hp:p x=true):l.any p=true:=List.any_eq_true.2 ⟨x,List.mem_of_getElem? h,hp⟩
theorem ymu {α:Type} {p:α->Bool} {l:List α} {k:Nat} {x:α} (h0:(l.take k).any p=false) (h:l[k]?=some x) (hp:p x=false):(l.take (k+1)).any p=false:=by
 rw[List.take_add_one,List.any_append,h0,h]
 simp[hp]
theorem ylo {w:World} {base m n g cap h:Nat} {e:TypeId} {xs:List Value} (hr:w.ownsRow base e m (.slice (some ⟨g,0,none⟩) n cap) n xs) (hne:g≠h) (i:Nat) (l:List Value):(putL w h i l).ownsRow base e m (.slice (some ⟨g,0,none⟩) n cap) n xs:=by
 obtain⟨h1,h2⟩:=hr
 refine⟨h1,?_⟩
 rcases h2 with ⟨h2,_⟩|⟨g',cap',cur,e1,e2,e3,e4⟩
 ·cases h2
 ·refine .inr ⟨g',cap',cur,e1,e2,?_,e4⟩
  injection e1 with e1 _ _
  injection e1 with e1
  injection e1 with e1
  subst e1
  rw[yfh hne]
  exact e3
def PU (w w':World) (g8 g9 gl cap:Nat) (xs:List PF) (O:ByteArray) (p:P7) (q:Rat):Prop:=
 Bk w' w.heap.size u0C 134/\w'.ownsRow (w.heap.size+1) 174 13 (.slice (some ⟨gl,0,none⟩) xs.length cap) xs.length (xs.flatMap PF.L)/\Ub w' g8 ⟨#[49]⟩ O p/\(∃ A c A' c',Bk w' g9 #[.bool (ngt q),.slice A (nd (top q)) c,.slice A' (nd q.den) c'] 178/\Fr w' (.agg #[.bool (ngt q),.slice A (nd (top q)) c,.slice A' (nd q.den) c']) q)/\Below w.heap.size w w'/\w.heap.size<g8/\gl<g8/\g8<g9
theorem PU.b {w w1:World} {g8 g9 gl cap:Nat} {xs:List PF} {O:ByteArray} {p:P7} {q:Rat} (h:PU w w1 g8 g9 gl cap xs O p q):Below w.heap.size w w1:=h.2.2.2.2.1
theorem PU.up {w w1 w2:World} {g8 g9 gl cap:Nat} {xs:List PF} {O:ByteArray} {p:P7} {q:Rat} (h:PU w w1 g8 g9 gl cap xs O p q) (hb:Below w1.heap.size w1 w2):PU w w2 g8 g9 gl cap xs O p q:=by
 obtain⟨h1,h2,h3,⟨A,c,A',c',h4,h5⟩,h6,h7⟩:=h
 exact⟨h1.up hb,yal h2 hb,h3.up hb,⟨A,c,A',c',h4.up hb,h5.up hb⟩,yac h6 hb,h7⟩
theorem PU.grow {w w1:World} {g8 g9 gl cap:Nat} {xs:List PF} {O:ByteArray} {p:P7} {q:Rat} (h:PU w w1 g8 g9 gl cap xs O p q) (C:Array Value) (t:TypeId):PU w (w1.alloc (.cells C t)) g8 g9 gl cap xs O p q:=h.up ((Below.refl _ _).alloc (Nat.le_refl _) _)
theorem PU.drew {w w1:World} {g8 g9 gl cap:Nat} {xs:List PF} {O:ByteArray} {p:P7} {q:Rat} (h:PU w w1 g8 g9 gl cap xs O p q):PU w w1.drew g8 g9 gl cap xs O p q:=h.up (Below.drew (Below.refl _ _))
theorem PU.put8 {w w1:World} {g8 g9 gl cap:Nat} {xs:List PF} {O:ByteArray} {p p':P7} {q:Rat} (h:PU w w1 g8 g9 gl cap xs O p q) (i:Nat) (v:Value) (e:(unC ⟨#[49]⟩ O p).setIfInBounds i v=unC ⟨#[49]⟩ O p'):PU w (w1.setCell ⟨g8,i,none⟩ v) g8 g9 gl cap xs O p' q:=by
 obtain⟨h1,h2,h3,⟨A,c,A',c',h4,h5⟩,h6,h7,h8,h9⟩:=h
 refine⟨h1.set_other _ (by omega),ylo h2 (by omega) i [v],?_,⟨A,c,A',c',h4.set_other _ (by omega),h5.putL (C:=unC ⟨#[49]⟩ O p) h3 (yqy _ _ _) i [v]⟩,h6.setCell (Nat.le_of_lt h7) _,h7,h8,h9⟩
 have:=Bk.set (C:=unC ⟨#[49]⟩ O p) h3 (i:=i) v
 rw[e] at this
 exact this
theorem PU.put9 {w w1:World} {g8 g9 gl cap:Nat} {xs:List PF} {O:ByteArray} {p:P7} {q q':Rat} {A A':Option Addr} {c c':Nat} (h:PU w w1 g8 g9 gl cap xs O p q) (hF:Fr w1 (.agg #[.bool (ngt q'),.slice A (nd (top q')) c,.slice A' (nd q'.den) c']) q') :
  PU w (((w1.setCell ⟨g9,0,none⟩ (.bool (ngt q'))).setCell ⟨g9,1,none⟩ (.slice A (nd (top q')) c)).setCell ⟨g9,2,none⟩ (.slice A' (nd q'.den) c')) g8 g9 gl cap xs O p q':=by
 obtain⟨h1,h2,h3,⟨A1,c1,A2,c2,h4,h5⟩,h6,h7,h8,h9⟩:=h
 show PU w (putL w1 g9 0 [.bool (ngt q'),.slice A (nd (top q')) c,.slice A' (nd q'.den) c']) g8 g9 gl cap xs O p q'
 refine⟨h1.put_other _ _ (by omega),ylo h2 (by omega) _ _,Bk.put_other (C:=unC ⟨#[49]⟩ O p) h3 _ _ (by omega),⟨A,c,A',c',h4.put _ rfl,hF.putL h4 (by simp[notK]) _ _⟩,yd9 (by omega) _ _ h6,h7,h8,h9⟩
theorem ynx {w:World} {base m n g cap:Nat} {e:TypeId} {xs:List Value} (h:w.ownsRow base e m (.slice (some ⟨g,0,none⟩) n cap) n xs):g<w.heap.size:=by
 rcases h.2 with ⟨h,_⟩|⟨g',cap',cur,e1,e2,e3,_⟩
 ·cases h
 ·injection e1 with e1 _ _
  injection e1 with e1
  injection e1 with e1
  subst e1
  exact(Array.getElem?_eq_some_iff.1 e3).1
theorem PU.start {w wr w2:World} {gl cap:Nat} {xs:List PF} {O:ByteArray} {q:Rat} {A A':Option Addr} {c c':Nat} (h:PA1 w wr (.slice (some ⟨gl,0,none⟩) xs.length cap) xs)
  (hb:Below (wr.alloc (.cells (unC ⟨#[49]⟩ O ⟨0,0,0,0,0,0,0⟩) 134)).heap.size (wr.alloc (.cells (unC ⟨#[49]⟩ O ⟨0,0,0,0,0,0,0⟩) 134)) w2) (hF:Fr w2 (.agg #[.bool (ngt q),.slice A (nd (top q)) c,.slice A' (nd q.den) c']) q) :
  PU w (w2.alloc (.cells #[.bool (ngt q),.slice A (nd (top q)) c,.slice A' (nd q.den) c'] 178)) wr.heap.size w2.heap.size gl cap xs O ⟨0,0,0,0,0,0,0⟩ q:=by
 have h0:=h.grow (unC ⟨#[49]⟩ O ⟨0,0,0,0,0,0,0⟩) 134
 have s1:(wr.alloc (.cells (unC ⟨#[49]⟩ O ⟨0,0,0,0,0,0,0⟩) 134)).heap.size=wr.heap.size+1:=by simp
 have hu:=(Bk.new wr (unC ⟨#[49]⟩ O ⟨0,0,0,0,0,0,0⟩) 134).up hb
 have h2:=h0.up hb
 have hx:=ya1 w2 (.bool (ngt q)) (.slice A (nd (top q)) c) (.slice A' (nd q.den) c') 178
 have h3:=h2.up hx.2.1
 have hl:=h.1.lt
 have hg:=ynx h.2.1
 have hz:=hb.size
 exact⟨h3.1,h3.2.1,hu.up hx.2.1,⟨A,c,A',c',Bk.new w2 _ _,hF.up hx.2.1⟩,h3.2.2,hl,hg,by omega⟩
theorem seven {w:World} {g9 g11 g12:Nat} {t t' u:TypeId} {a0 a1 a2 b0 b1 b2 x0 x1 x2 x3 x4 x5 x6 x7 x8 x9 x10 x11 x12:Value} (h1:Bk w g9 #[a0,a1,a2] t) (h2:Bk w g11 #[x0,x1,x2,x3,x4,x5,x6,x7,x8,x9,x10,x11,x12] u) (h3:Bk w g12 #[b0,b1,b2] t') :
  w.cell? ⟨g9,0,none⟩=some a0/\w.cell? ⟨g9,1,none⟩=some a1/\w.cell? ⟨g9,2,none⟩=some a2/\w.cell? ⟨g12,0,none⟩=some b0/\w.cell? ⟨g12,1,none⟩=some b1/\w.cell? ⟨g12,2,none⟩=some b2/\w.cell? ⟨g11,11,none⟩=some x11:=
 ⟨h1.cell 0,h1.cell 1,h1.cell 2,h3.cell 0,h3.cell 1,h3.cell 2,h2.cell 11⟩
theorem PU.fr {w w1:World} {g8 g9 gl cap:Nat} {xs:List PF} {O:ByteArray} {p:P7} {q:Rat} (h:PU w w1 g8 g9 gl cap xs O p q):∃ A c A' c',Bk w1 g9 #[.bool (ngt q),.slice A (nd (top q)) c,.slice A' (nd q.den) c'] 178/\Fr w1 (.agg #[.bool (ngt q),.slice A (nd (top q)) c,.slice A' (nd q.den) c']) q:=h.2.2.2.1
end Go.Proofs.YtajmjllhdcdkmaaGreatDoor
