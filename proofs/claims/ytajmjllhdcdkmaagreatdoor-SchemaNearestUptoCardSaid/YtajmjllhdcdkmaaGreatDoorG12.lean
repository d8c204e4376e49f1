import Derived.Test.YtajmjllhdcdkmaaGreatDoorZ
import Derived.Test.YtajmjllhdcdkmaaGreatDoorG11
import Derived.Test.YtajmjllhdcdkmaaGreatDoorG9
import Derived.Test.YtajmjllhdcdkmaaGreatDoorG10
import Derived.Test.YtajmjllhdcdkmaaGreatDoorG5
import Derived.Deep.MidRow
import Derived.Deep.WholeRow
set_option maxRecDepth 100000
set_option maxHeartbeats 6400000
namespace Go.Proofs.YtajmjllhdcdkmaaGreatDoor
open Go.RowKit Dg Q Num Str
def textB (l:List UInt8):Bool:=decide (l.length<=200)&&l.all (fun c=>decide (32<=c.toNat/\c.toNat<=126))
def attrB (a:AttrD):Bool:=
 if a.kind=1 then textB (bl a.text)&&a.nums.isEmpty
 else if a.kind=2 then decide (1<=a.nums.length/\a.nums.length<=32/\bl a.text=[])&&a.nums.all (fun x=>(num? (bl x)).isSome)
 else false
def attrsB (l:List AttrD):Bool:=l.all attrB&&ascB 16 (l.map (bl ·.name))
def stageB (s:StageD):Bool:=decide (1<=s.kind/\s.kind<=5/\0<=s.n/\s.n<=8)&&(decide (bl s.step=[])||((qcm (bl s.step) [48]).2&&decide (0<(qcm (bl s.step) [48]).1)))
def cellsFrom:Int->List Int->Int
 | n,[]=>n
 | n,x::l=>if 4096<IntKind.i64.wrap (n*x) then IntKind.i64.wrap (n*x) else cellsFrom (IntKind.i64.wrap (n*x)) l
def cellsB (l:List Int):Int:=if l.contains 0 then 0 else cellsFrom 1 l
def chunksB (v:VarD):Bool:=v.chunks.all (fun c=>decide (1<=c/\c<=1024))&&decide (v.dims.map bl).Nodup
def unitB (l:List UInt8):Bool:=decide (l=[])||decide ((punit l).2=0)
def varB (v:VarD):Bool:=
 decide (1<=v.typ/\v.typ<=5/\v.dims.length<=4/\v.chunks.length=v.dims.length/\v.stages.length<=4)&&(chunksB v&&(v.stages.all stageB&&(unitB (bl v.unit)&&(qfits v.typ (bl v.fill)&&(attrsB v.attrs&&decide (cellsB v.chunks<=4096))))))
def groupIx (s:List GroupD) (p:List UInt8):Option Nat:=s.findIdx? (fun g=>bl g.path==p)
def dimIx (l:List DimD) (n:List UInt8):Option Nat:=l.findIdx? (fun d=>bl d.name==n)
def resolveB (s:List GroupD) (n:List UInt8):Nat->List UInt8->Option (Nat×Nat)
 | 0,_=>none
 | k+1,p=>match groupIx s p with
  | none=>none
  | some g=>match dimIx ((s[g]?.map (·.dims)).getD []) n with
   | some d=>some (g,d)
   | none=>match parentB p with
    | none=>none
    | some up=>resolveB s n k up
def sizeAt (s:List GroupD) (x:Nat×Nat):Int:=(((s[x.1]?.map (·.dims)).getD [])[x.2]?.map (·.size)).getD 0
def shapeB (s:List GroupD) (p:List UInt8) (v:VarD):Option (List Int):=v.dims.mapM fun n=>(resolveB s (bl n) (p.length+1) p).map (sizeAt s)
def listsB (g:GroupD):Bool:=g.dims.all (fun d=>decide (0<=d.size/\d.size<=1024))&&(g.vars.all varB&&(ascB 16 (g.dims.map (bl ·.name))&&(ascB 24 (g.vars.map (bl ·.name))&&attrsB g.attrs)))
def placeB (s:List GroupD) (i:Nat) (g:GroupD):Bool:=
 (i==0||match parentB (bl g.path) with
  | none=>false
  | some up=>Op.bytesLess (bl ((s[i - 1]?.map (·.path)).getD ⟨#[]⟩)) (bl g.path)&&(groupIx s up).isSome)&&listsB g
def fitB (s:List GroupD) (p:List UInt8) (v:VarD):Bool:=match shapeB s p v with
 | none=>false
 | some l=>decide (cellsB l<=4096)
def validB (s:List GroupD):Bool:=
 (decide (1<=s.length/\s.length<=16)&&(s.head?.map (bl ·.path))==some [47])&&((s.zipIdx.all fun x=>placeB s x.2 x.1)&&s.all fun g=>g.vars.all (fitB s (bl g.path)))
def wokenS:List GroupD:=[⟨⟨#[47]⟩,[⟨⟨#[116]⟩,2,true⟩],[⟨⟨#[118]⟩,1,[⟨#[116]⟩],[2],⟨#[48]⟩,⟨#[109]⟩,[],[]⟩],[]⟩]
theorem yf9:validB wokenS=true:=by decide +kernel
theorem yqb (s:StageD) (w:World) (h1:inI s.kind) (h2:inI s.n) (h3:okS s.step) (hw:Wf w):Calls Tryz.prog 85 #[.agg #[.int .i64 s.kind,.int .i64 s.n,.string s.step]] w fun e w'=>e=.returned (.bool (stageB s))/\Below w.heap.size w w':=by
 obtain⟨K,N,S⟩:=s
 dsimp only at *
 obtain⟨q,hq⟩:∃ q,(qcm (bl S) [48]).1=q:=⟨_,rfl⟩
 obtain⟨qb,hqb⟩:∃ qb,(qcm (bl S) [48]).2=qb:=⟨_,rfl⟩
 have QC:=fun w' (hb:Below w.heap.size w w')=>(show Calls Tryz.prog 124 #[.string S,.string ⟨#[48]⟩] w' fun e w2=>e=.returned (.tuple #[.int .i64 q,.bool qb])/\Below w'.heap.size w' w2 by
  have:=yi9 S ⟨#[48]⟩ h3 (by decide) w' (hw.up hb)
  rw[show bl ⟨#[48]⟩=[48] from rfl,hq,hqb] at this
  exact this)
 obtain⟨X,hX⟩:∃ X,stageB ⟨K,N,S⟩=X:=⟨_,rfl⟩
 have hX2:(decide (1<=K/\K<=5/\0<=N/\N<=8)&&(decide (bl S=[])||(qb&&decide (0<q))))=X:=by rw[<- hq,<- hqb];exact hX
 rw[hX]
 have hes:S.toList.isEmpty=decide (bl S=[]):=emptyS S
 clear hX h1 h2 h3 hw hq hqb
 by_cases g2:1<=K
 ·by_cases g4:K<=5
  ·by_cases g6:0<=N
   ·by_cases g8:N<=8
    ·rw[decide_eq_true ⟨g2,g4,g6,g8⟩,Bool.true_and] at hX2
     by_cases hS:bl S=[]
     ·rw[decide_eq_true hS] at hes hX2
      clear hS
      rw[Bool.true_or] at hX2
      subst hX2
      go_enter Tryz.func85,Tryz.ntmps85
      go_wp2_with (go_at_call 124;(with_reducible refine(QC _ (by (repeat (first|exact zJ _ _|assumption|refine yab ?_ _|refine zL ?_|refine yac ?_ (by assumption)|refine yaa ?_ _)))).mono ?_);rintro e w1 ⟨rfl,hb⟩;have k0:w1.cell? ⟨w.heap.size,0,none⟩=some (.int .i64 K):=(hb.cell (p:=⟨w.heap.size,0,none⟩) (by simp)).trans (by go_keep);have k1:w1.cell? ⟨w.heap.size,1,none⟩=some (.int .i64 N):=(hb.cell (p:=⟨w.heap.size,1,none⟩) (by simp)).trans (by go_keep);have k2:w1.cell? ⟨w.heap.size,2,none⟩=some (.string S):=(hb.cell (p:=⟨w.heap.size,2,none⟩) (by simp)).trans (by go_keep);have b1:Hid (Below w.heap.size w w1):=zh (by (repeat (first|exact zJ _ _|assumption|refine yab ?_ _|refine zL ?_|refine yac ?_ (by assumption)|refine yaa ?_ _)));clear hb)
      go_ret
      exact⟨rfl,b1.out⟩
     ·rw[decide_eq_false hS] at hes hX2
      clear hS
      rw[Bool.false_or] at hX2
      cases qb
      ·rw[Bool.false_and] at hX2
       subst hX2
       go_enter Tryz.func85,Tryz.ntmps85
       go_wp2_with (go_at_call 124;(with_reducible refine(QC _ (by (repeat (first|exact zJ _ _|assumption|refine yab ?_ _|refine zL ?_|refine yac ?_ (by assumption)|refine yaa ?_ _)))).mono ?_);rintro e w1 ⟨rfl,hb⟩;have k0:w1.cell? ⟨w.heap.size,0,none⟩=some (.int .i64 K):=(hb.cell (p:=⟨w.heap.size,0,none⟩) (by simp)).trans (by go_keep);have k1:w1.cell? ⟨w.heap.size,1,none⟩=some (.int .i64 N):=(hb.cell (p:=⟨w.heap.size,1,none⟩) (by simp)).trans (by go_keep);have k2:w1.cell? ⟨w.heap.size,2,none⟩=some (.string S):=(hb.cell (p:=⟨w.heap.size,2,none⟩) (by simp)).trans (by go_keep);have b1:Hid (Below w.heap.size w w1):=zh (by (repeat (first|exact zJ _ _|assumption|refine yab ?_ _|refine zL ?_|refine yac ?_ (by assumption)|refine yaa ?_ _)));clear hb)
       go_ret
       exact⟨rfl,b1.out⟩
      ·rw[Bool.true_and] at hX2
       subst hX2
       go_enter Tryz.func85,Tryz.ntmps85
       go_wp2_with (go_at_call 124;(with_reducible refine(QC _ (by (repeat (first|exact zJ _ _|assumption|refine yab ?_ _|refine zL ?_|refine yac ?_ (by assumption)|refine yaa ?_ _)))).mono ?_);rintro e w1 ⟨rfl,hb⟩;have k0:w1.cell? ⟨w.heap.size,0,none⟩=some (.int .i64 K):=(hb.cell (p:=⟨w.heap.size,0,none⟩) (by simp)).trans (by go_keep);have k1:w1.cell? ⟨w.heap.size,1,none⟩=some (.int .i64 N):=(hb.cell (p:=⟨w.heap.size,1,none⟩) (by simp)).trans (by go_keep);have k2:w1.cell? ⟨w.heap.size,2,none⟩=some (.string S):=(hb.cell (p:=⟨w.heap.size,2,none⟩) (by simp)).trans (by go_keep);have b1:Hid (Below w.heap.size w w1):=zh (by (repeat (first|exact zJ _ _|assumption|refine yab ?_ _|refine zL ?_|refine yac ?_ (by assumption)|refine yaa ?_ _)));clear hb)
       go_ret
       exact⟨rfl,b1.out⟩
    ·rw[decide_eq_false (fun h=>g8 (by omega)),Bool.false_and] at hX2
     subst hX2
     go_enter Tryz.func85,Tryz.ntmps85
     go_wp2_with (go_at_call 124;(with_reducible refine(QC _ (by (repeat (first|exact zJ _ _|assumption|refine yab ?_ _|refine zL ?_|refine yac ?_ (by assumption)|refine yaa ?_ _)))).mono ?_);rintro e w1 ⟨rfl,hb⟩;have k0:w1.cell? ⟨w.heap.size,0,none⟩=some (.int .i64 K):=(hb.cell (p:=⟨w.heap.size,0,none⟩) (by simp)).trans (by go_keep);have k1:w1.cell? ⟨w.heap.size,1,none⟩=some (.int .i64 N):=(hb.cell (p:=⟨w.heap.size,1,none⟩) (by simp)).trans (by go_keep);have k2:w1.cell? ⟨w.heap.size,2,none⟩=some (.string S):=(hb.cell (p:=⟨w.heap.size,2,none⟩) (by simp)).trans (by go_keep);have b1:Hid (Below w.heap.size w w1):=zh (by (repeat (first|exact zJ _ _|assumption|refine yab ?_ _|refine zL ?_|refine yac ?_ (by assumption)|refine yaa ?_ _)));clear hb)
     go_ret
     exact⟨rfl,b1.out⟩
   ·rw[decide_eq_false (fun h=>g6 (by omega)),Bool.false_and] at hX2
    subst hX2
    go_enter Tryz.func85,Tryz.ntmps85
    go_wp2_with (go_at_call 124;(with_reducible refine(QC _ (by (repeat (first|exact zJ _ _|assumption|refine yab ?_ _|refine zL ?_|refine yac ?_ (by assumption)|refine yaa ?_ _)))).mono ?_);rintro e w1 ⟨rfl,hb⟩;have k0:w1.cell? ⟨w.heap.size,0,none⟩=some (.int .i64 K):=(hb.cell (p:=⟨w.heap.size,0,none⟩) (by simp)).trans (by go_keep);have k1:w1.cell? ⟨w.heap.size,1,none⟩=some (.int .i64 N):=(hb.cell (p:=⟨w.heap.size,1,none⟩) (by simp)).trans (by go_keep);have k2:w1.cell? ⟨w.heap.size,2,none⟩=some (.string S):=(hb.cell (p:=⟨w.heap.size,2,none⟩) (by simp)).trans (by go_keep);have b1:Hid (Below w.heap.size w w1):=zh (by (repeat (first|exact zJ _ _|assumption|refine yab ?_ _|refine zL ?_|refine yac ?_ (by assumption)|refine yaa ?_ _)));clear hb)
    go_ret
    exact⟨rfl,b1.out⟩
  ·rw[decide_eq_false (fun h=>g4 (by omega)),Bool.false_and] at hX2
   subst hX2
   go_enter Tryz.func85,Tryz.ntmps85
   go_wp2_with (go_at_call 124;(with_reducible refine(QC _ (by (repeat (first|exact zJ _ _|assumption|refine yab ?_ _|refine zL ?_|refine yac ?_ (by assumption)|refine yaa ?_ _)))).mono ?_);rintro e w1 ⟨rfl,hb⟩;have k0:w1.cell? ⟨w.heap.size,0,none⟩=some (.int .i64 K):=(hb.cell (p:=⟨w.heap.size,0,none⟩) (by simp)).trans (by go_keep);have k1:w1.cell? ⟨w.heap.size,1,none⟩=some (.int .i64 N):=(hb.cell (p:=⟨w.heap.size,1,none⟩) (by simp)).trans (by go_keep);have k2:w1.cell? ⟨w.heap.size,2,none⟩=some (.string S):=(hb.cell (p:=⟨w.heap.size,2,none⟩) (by simp)).trans (by go_keep);have b1:Hid (Below w.heap.size w w1):=zh (by (repeat (first|exact zJ _ _|assumption|refine yab ?_ _|refine zL ?_|refine yac ?_ (by assumption)|refine yaa ?_ _)));clear hb)
   go_ret
   exact⟨rfl,b1.out⟩
 ·rw[decide_eq_false (fun h=>g2 (by omega)),Bool.false_and] at hX2
  subst hX2
  go_enter Tryz.func85,Tryz.ntmps85
  go_wp2_with (go_at_call 124;(with_reducible refine(QC _ (by (repeat (first|exact zJ _ _|assumption|refine yab ?_ _|refine zL ?_|refine yac ?_ (by assumption)|refine yaa ?_ _)))).mono ?_);rintro e w1 ⟨rfl,hb⟩;have k0:w1.cell? ⟨w.heap.size,0,none⟩=some (.int .i64 K):=(hb.cell (p:=⟨w.heap.size,0,none⟩) (by simp)).trans (by go_keep);have k1:w1.cell? ⟨w.heap.size,1,none⟩=some (.int .i64 N):=(hb.cell (p:=⟨w.heap.size,1,none⟩) (by simp)).trans (by go_keep);have k2:w1.cell? ⟨w.heap.size,2,none⟩=some (.string S):=(hb.cell (p:=⟨w.heap.size,2,none⟩) (by simp)).trans (by go_keep);have b1:Hid (Below w.heap.size w w1):=zh (by (repeat (first|exact zJ _ _|assumption|refine yab ?_ _|refine zL ?_|refine yac ?_ (by assumption)|refine yaa ?_ _)));clear hb)
  go_ret
  exact⟨rfl,b1.out⟩
open Go.RowKit Go.Proofs.YtajmjllhdcdkmaaGreatDoor.Dg Go.Proofs.YtajmjllhdcdkmaaGreatDoor.Q
theorem Bk.row {w:World} {g:Nat} {C:Array Value} {t:TypeId} (h:Bk w g C t) (D:Array Value):Bk (w.setRow g D) g D t:=setRow_heap w g C D t (0,0) h
theorem Bk.row_other {w:World} {g k:Nat} {C:Array Value} {t:TypeId} (h:Bk w g C t) (D:Array Value) (hne:g≠k):Bk (w.setRow k D) g C t:=(setRow_other w k g D hne).trans h
theorem yby {B g:Nat} {w0 w:World} (h:Below B w0 w) (hg:B<=g) (D:Array Value):Below B w0 (w.setRow g D):=
 ⟨h.os,h.tape,h.output,by rw[setRow_size];exact h.size,fun k hk=>(setRow_other w g k D (by omega)).trans (h.block k hk)⟩
theorem yaw {P:Program} {w:World} {g:Nat} {cells:Array Value} {t ty:TypeId} {d:TypeDesc} (hg:Bk w g cells t) (hu:P.underlying ty=some d) (hd:(match d with | .struct _ | .array _ _=>true|_=>false)=true) (hi:(P.info? ty).map (·.size)=some cells.size):(loadVar ty ⟨g,0,none⟩).run P w=.ok (.agg cells) w:=run_loadVar_row w g t ty cells (0,0) d hg hu hd hi
theorem ybs {fn:Func} {p u:Tmp} {ty:TypeId} (h:fn.results=#[.cell p ty,.tmp u]) {tmps:Array Value} {P:Program} {w:World} {g:Nat} {V U:Value} (hx:tmps.getD p undef=.pointer (some ⟨g,0,none⟩)) (hl:(loadVar ty ⟨g,0,none⟩).run P w=.ok V w) (hu:tmps.getD u undef=U) :
  (results fn tmps).run P w=.ok (.tuple #[V,U]) w:=by
 subst hu
 simp only[results,h]
 have hx':tmps[p]?.getD undef=.pointer (some ⟨g,0,none⟩):=by simpa using hx
 simp[Result.andThen,hx',asAddr,hl]
theorem yi3 {fn:Func} {p:Tmp} {ty:TypeId} (h:fn.results=#[.cell p ty]) {tmps:Array Value} {P:Program} {w:World} {g:Nat} {V:Value} (hx:tmps.getD p undef=.pointer (some ⟨g,0,none⟩)) (hl:(loadVar ty ⟨g,0,none⟩).run P w=.ok V w) :
  (results fn tmps).run P w=.ok V w:=by
 simp only[results,h]
 have hx':tmps[p]?.getD undef=.pointer (some ⟨g,0,none⟩):=by simpa using hx
 simp[hx',asAddr,hl]
section
variable {P:Program} {ops:Array Oper} {Q:Exit->Act->World->Prop} {a:Act} {w:World} {rest:List Oper} {o:Oper}
theorem ydx (hgd:o.guard=none) (ty:TypeId) (x y:Operand) (ho:o.op=.store ty x y) (g:Nat) (cells:Array Value) (hx:a.eval x=.pointer (some ⟨g,0,none⟩)) (hy:a.eval y=.agg cells)
  (t:TypeId) (old:Array Value) (hg:Bk w g old t) (hi:(P.info? ty).map (·.size)=some cells.size) (hold:old.size=cells.size) (h1:cells.all (·.oneCell')=true)
  (h:wpList P ops Q rest (a.put o.dst undef) (w.setRow g cells)):wpList P ops Q (o::rest) a w:=wpList_store_row hgd ty x y ho g cells hx hy t old hg hi hold h1 h
theorem yek (hgd:o.guard=none) (ty:TypeId) (x:Operand) (ho:o.op=.load ty x) (g:Nat) (cells:Array Value) (hx:a.eval x=.pointer (some ⟨g,0,none⟩)) (t:TypeId) (d:TypeDesc) (hg:Bk w g cells t) (hu:P.underlying ty=some d) (hd:(match d with | .struct _ | .array _ _=>true|_=>false)=true)
  (hi:(P.info? ty).map (·.size)=some cells.size) (h:wpList P ops Q rest (a.put o.dst (.agg cells)) w):wpList P ops Q (o::rest) a w:=wpList_load_row hgd ty x ho g hx t cells (0,0) d hg hu hd hi h
end
end Go.Proofs.YtajmjllhdcdkmaaGreatDoor
