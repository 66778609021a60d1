/- Base to MemR -/
import Derived.WalkKit
import Derived.Lib.Hide
import Derived.Deep.QuietTactic
import Derived.BigQuiet
import Derived.WalkSpells
import Derived.WalkLawsBesides
import Derived.Maps.AppendAt
import Derived.Deep.RegionHeld3
import Derived.Deep.DeepCutAuto
import Derived.Lib.AppendZeros
namespace Go.Proofs.YtinlmkhlgclbfabDoor
open Go.RowKit
section
def nth {T:Type} [Inhabited T] (xs:List T) (k:Nat):T:=xs.getD k default
theorem nth_eq {T:Type}[Inhabited T]{xs:List T}{k:Nat}(h:k < xs.length):nth xs k=xs[k]:=by
 unfold nth;rw [List.getD_eq_getElem?_getD,List.getElem?_eq_getElem h];rfl
theorem nth_mem {T:Type}[Inhabited T]{xs:List T}{k:Nat}(h:k < xs.length):nth xs k∈xs:=by rw [nth_eq h];exact List.getElem_mem h
def inB (a n b:Int):Bool:=decide (a≤n)&&decide (n≤b)
theorem inB_true {a n b:Int} :inB a n b=true↔a≤n∧n≤b:=by simp [inB]
theorem inB_false {a n b:Int} :inB a n b=false↔n < a∨b < n:=by
 unfold inB;rw [Bool.and_eq_false_iff];simp
def firstE:Nat→(Nat→Int)→Int
 |0,_=>0
 |n+1,f=>if firstE n f=0 then f n else firstE n f
theorem firstE_none {n:Nat}{f:Nat→Int}(h:∀j,j < n→f j=0):firstE n f=0:=by
 induction n with
 |zero=>rfl
 |succ n ih=>unfold firstE;rw [if_pos (ih fun j hj=>h j (by omega))];exact h n (by omega)
theorem firstE_hit {n:Nat}{f:Nat→Int}{k:Nat}(hk:k < n)(h:∀j,j < k→f j=0)(h1:f k≠0):firstE n f=f k:=by
 induction n with
 |zero=>omega
 |succ n ih=>
  unfold firstE
  by_cases e:k=n
  ·subst e;rw [if_pos (firstE_none h)]
  ·rw [ih (by omega),if_neg h1]
theorem firstE_zero {n:Nat}{f:Nat→Int}(h:firstE n f=0):∀j,j < n→f j=0:=by
 induction n with
 |zero=>intro j hj;omega
 |succ n ih=>
  unfold firstE at h
  by_cases e:firstE n f=0
  ·rw [if_pos e] at h
   intro j hj
   by_cases e':j=n
   ·subst e';exact h
   ·exact ih e j (by omega)
  ·rw [if_neg e] at h;exact absurd h e
def findI (n:Nat) (p:Nat→Bool):Int:=match (List.range n).find? p with|some i=>i|none=> -1
theorem findI_hit {n:Nat}{p:Nat→Bool}{k:Nat}(hk:k < n)(h:∀j,j < k→p j=false)(h1:p k=true):findI n p=k:=by
 unfold findI
 rw [show (List.range n).find? p=some k from by rw [List.find?_range_eq_some];exact ⟨h1,by simpa using hk,fun j hj=>by simp [h j hj]⟩]
theorem findI_none {n:Nat}{p:Nat→Bool}(h:∀j,j < n→p j=false):findI n p= -1:=by
 unfold findI
 rw [show (List.range n).find? p=none from by rw [List.find?_eq_none];intro j hj;simp [h j (by simpa using hj)]]
def anyI (n:Nat) (p:Nat→Bool):Bool:=(List.range n).any p
theorem findI_any (n:Nat)(p:Nat→Bool):decide (0≤findI n p)=anyI n p:=by
 unfold findI anyI
 cases h:(List.range n).find? p with
 |none=>
  rw [List.find?_eq_none] at h
  have:(List.range n).any p=false:=by rw [List.any_eq_false];exact fun x hx=>by simpa using h x hx
  simp [this]
 |some i=>
  have h1:=List.find?_some h
  have h2:=List.mem_of_find?_eq_some h
  have:(List.range n).any p=true:=List.any_eq_true.2 ⟨i,h2,h1⟩
  simp [this]
theorem anyI_false {n:Nat}{p:Nat→Bool} :anyI n p=false↔∀j,j < n→p j=false:=by
 unfold anyI;rw [List.any_eq_false];simp
theorem anyI_true {n:Nat}{p:Nat→Bool} :anyI n p=true↔∃j,j < n∧p j=true:=by
 unfold anyI;rw [List.any_eq_true];simp
def CellsAt (w:World) (b o:Nat) (cs:List Value):Prop:=∀j u,cs[j]?=some u→w.cell? ⟨b,o+j,none⟩=some u
theorem CellsAt.keep {w w':World}{b o:Nat}{cs:List Value}(h:CellsAt w b o cs)(hb:w'.heap[b]?=w.heap[b]?):CellsAt w' b o cs:=
 fun j u hu=>(World.cell?_of_block (w:=w) (a:=⟨b,o+j,none⟩) hb).trans (h j u hu)
structure Cod (T:Type) where
 size:Nat
 rel:(Nat→Prop)→World→List Value→T→Prop
 len:∀ {I w cs x},rel I w cs x→cs.length=size
 keep:∀ {I w w' cs x},rel I w cs x→(∀b,I b→w'.heap[b]?=w.heap[b]?)→rel I w' cs x
 mono:∀ {I J w cs x},rel I w cs x→(∀b,I b→J b)→rel J w cs x
def Cod.flat {T:Type} (k:Nat) (f:T→List Value) (h:∀x,(f x).length=k):Cod T where
 size:=k
 rel:=fun _ _ cs x=>cs=f x
 len:=fun {_ _ _ x} e=>by rw [e];exact h x
 keep:=fun e _=>e
 mono:=fun e _=>e
structure Sl {T:Type} (e:Cod T) (I:Nat→Prop) (w:World) (A:Option Addr) (c:Nat) (xs:List T):Prop where
 cap:xs.length≤c
 max:c≤maxLen
 nil:A=none→c=0
 elem:∀i (h:i < xs.length),∃b o es,A=some ⟨b,o,none⟩∧I b∧e.rel I w es xs[i]∧CellsAt w b (o+i*e.size) es
theorem Sl.keep {T:Type}{e:Cod T}{I:Nat→Prop}{w w':World}{A:Option Addr}{c:Nat}{xs:List T}(h:Sl e I w A c xs)(hk:∀b,I b→w'.heap[b]?=w.heap[b]?):Sl e I w' A c xs:=
 ⟨h.cap,h.max,h.nil,fun i hi=>by
  obtain ⟨b,o,es,hA,hI,hr,hc⟩:=h.elem i hi
  exact ⟨b,o,es,hA,hI,e.keep hr hk,hc.keep (hk b hI)⟩⟩
theorem Sl.mono {T:Type}{e:Cod T}{I J:Nat→Prop}{w:World}{A:Option Addr}{c:Nat}{xs:List T}(h:Sl e I w A c xs)(hk:∀b,I b→J b):Sl e J w A c xs:=
 ⟨h.cap,h.max,h.nil,fun i hi=>by
  obtain ⟨b,o,es,hA,hI,hr,hc⟩:=h.elem i hi
  exact ⟨b,o,es,hA,hk b hI,e.mono hr hk,hc⟩⟩
theorem Sl.empty {T:Type}(e:Cod T)(I:Nat→Prop)(w:World):Sl e I w none 0 []:=⟨by simp,by simp,fun _=>rfl,fun i hi=>by simp at hi⟩
def Cod.slice {T:Type} (e:Cod T):Cod (List T) where
 size:=1
 rel:=fun I w cs xs=>∃A c,cs=[.slice A xs.length c]∧Sl e I w A c xs
 len:=fun {_ _ _ _} ⟨_,_,h,_⟩=>by rw [h];rfl
 keep:=fun ⟨A,c,h,hs⟩ hk=>⟨A,c,h,hs.keep hk⟩
 mono:=fun ⟨A,c,h,hs⟩ hk=>⟨A,c,h,hs.mono hk⟩
def Low (B:Nat):Nat→Prop:=fun b=>b < B
theorem Sl.below {T:Type}{e:Cod T}{B:Nat}{w w':World}{A:Option Addr}{c:Nat}{xs:List T}(h:Sl e (Low B) w A c xs)(hb:Below B w w'):Sl e (Low B) w' A c xs:=
 h.keep fun b hI=>hb.block b hI
theorem Sl.up {T:Type}{e:Cod T}{B B':Nat}{w:World}{A:Option Addr}{c:Nat}{xs:List T}(h:Sl e (Low B) w A c xs)(hB:B≤B'):Sl e (Low B') w A c xs:=
 h.mono fun b hI=>Nat.lt_of_lt_of_le hI hB
theorem Sl.next {T:Type}{e:Cod T}{B:Nat}{w w':World}{A:Option Addr}{c:Nat}{xs:List T}(h:Sl e (Low B) w A c xs)(hB:B≤w.heap.size)(hb:Below w.heap.size w w'):Sl e (Low B) w' A c xs:=
 h.keep fun b hI=>hb.block b (Nat.lt_of_lt_of_le hI hB)
theorem Sl.cells {T:Type}[Inhabited T]{e:Cod T}{I:Nat→Prop}{w:World}{A:Option Addr}{c:Nat}{xs:List T}(h:Sl e I w A c xs){k:Nat}(hk:k < xs.length):
  ∃b o es,A=some ⟨b,o,none⟩∧I b∧e.rel I w es (nth xs k)∧CellsAt w b (o+k*e.size) es:=by
 rw [nth_eq hk];exact h.elem k hk
def cInt:Cod Int:= .flat 1 (fun n=>[.int .i64 n]) (fun _=>rfl)
def cBool:Cod Bool:= .flat 1 (fun n=>[.bool n]) (fun _=>rfl)
theorem Sl.at_int {I:Nat→Prop}{w:World}{A:Option Addr}{c:Nat}{xs:List Int}(h:Sl cInt I w A c xs){k:Nat}(hk:k < xs.length):
  ∃b o,A=some ⟨b,o,none⟩∧I b∧w.cell? ⟨b,o+k,none⟩=some (.int .i64 (nth xs k)):=by
 obtain ⟨b,o,es,hA,hI,rfl,hc⟩:=h.cells hk
 exact ⟨b,o,hA,hI,by have:=hc 0 _ rfl;simpa [cInt,Cod.flat] using this⟩
theorem Sl.at_bool {I:Nat→Prop}{w:World}{A:Option Addr}{c:Nat}{xs:List Bool}(h:Sl cBool I w A c xs){k:Nat}(hk:k < xs.length):
  ∃b o,A=some ⟨b,o,none⟩∧I b∧w.cell? ⟨b,o+k,none⟩=some (.bool (nth xs k)):=by
 obtain ⟨b,o,es,hA,hI,rfl,hc⟩:=h.cells hk
 exact ⟨b,o,hA,hI,by have:=hc 0 _ rfl;simpa [cBool,Cod.flat] using this⟩
theorem Sl.at_slice {T:Type}{e:Cod T}{I:Nat→Prop}{w:World}{A:Option Addr}{c:Nat}{xs:List (List T)}(h:Sl e.slice I w A c xs){k:Nat}(hk:k < xs.length):
  ∃b o A' c',A=some ⟨b,o,none⟩∧I b∧w.cell? ⟨b,o+k,none⟩=some (.slice A' (nth xs k).length c')∧Sl e I w A' c' (nth xs k):=by
 obtain ⟨b,o,es,hA,hI,⟨A',c',rfl,hs⟩,hc⟩:=h.cells hk
 exact ⟨b,o,A',c',hA,hI,by have:=hc 0 _ rfl;simpa [Cod.slice] using this,hs⟩
def Enters (P:Program) (f:FuncId):Prop:=∀(args:Array Value) (w:World),(callFunc f args).run P w= .ok (.enter f args) w
structure Only (J:Nat→Prop) (w w':World):Prop where
 os:w'.os=w.os
 tape:w'.tape=w.tape
 output:w'.output=w.output
 size:w.heap.size≤w'.heap.size
 block:∀k,k < w.heap.size→¬ J k→w'.heap[k]?=w.heap[k]?
theorem Only.refl (J:Nat→Prop)(w:World):Only J w w:=⟨rfl,rfl,rfl,Nat.le_refl _,fun _ _ _=>rfl⟩
theorem Only.trans {J:Nat→Prop}{a b c:World}(h:Only J a b)(k:Only J b c):Only J a c:=
 ⟨k.os.trans h.os,k.tape.trans h.tape,k.output.trans h.output,Nat.le_trans h.size k.size,fun i hi hn=>(k.block i (Nat.lt_of_lt_of_le hi h.size) hn).trans (h.block i hi hn)⟩
theorem Only.below {J:Nat→Prop}{w w':World}(h:Below w.heap.size w w'):Only J w w':=⟨h.os,h.tape,h.output,h.size,fun k hk _=>h.block k hk⟩
theorem below_drewN {B:Nat}{a w:World}(h:Below B a w)(n:Nat):Below B a (w.drewN n):=⟨h.os,h.tape,h.output,h.size,h.block⟩
theorem bcell {W w1:World}(hb:Below W.heap.size W w1):(∀b o,b < W.heap.size→w1.cell? ⟨b,o,none⟩=W.cell? ⟨b,o,none⟩)∧(∀b o,b < W.heap.size→w1.frozen? ⟨b,o,none⟩=W.frozen? ⟨b,o,none⟩):=
 ⟨fun b o h=>hb.cell (p:=⟨b,o,none⟩) h,fun b o h=>hb.frozen (p:=⟨b,o,none⟩) h⟩
theorem heapAt (w:World)(o:Obj)(g:Nat)(h:g=w.heap.size):(w.alloc o).heap[g]?=some o:=by subst h;exact heap_alloc_new w o
theorem heapAt_drew (w:World)(o:Obj)(g:Nat)(h:g=w.heap.size):(w.alloc o).drew.heap[g]?=some o:=heapAt w o g h
theorem heapAt_drewN (w:World)(o:Obj)(g n:Nat)(h:g=w.heap.size):((w.alloc o).drewN n).heap[g]?=some o:=heapAt w o g h
theorem heap_drew {w:World}{g:Nat}{x:Option Obj}(h:w.heap[g]?=x):w.drew.heap[g]?=x:=h
theorem heap_drewN {w:World}{g n:Nat}{x:Option Obj}(h:w.heap[g]?=x):(w.drewN n).heap[g]?=x:=h
theorem heap_set_far {w:World}{g:Nat}{x:Option Obj}{p:Addr}{u:Value}(h:w.heap[g]?=x)(hne:g≠p.block):(w.setCell p u).heap[g]?=x:=(Below.heap_setCell w p u g hne).trans h
theorem heap_set_same {w:World}{g i:Nat}{t:TypeId}{cs:Array Value}{fr:Nat×Nat}{u:Value}(h:w.heap[g]?=some (.cells cs t fr)):(w.setCell ⟨g,i,none⟩ u).heap[g]?=some (.cells (cs.setIfInBounds i u) t fr):=by
 simp [World.setCell,Array.getElem?_modify,h]
theorem heap_set2 {w:World}{g:Nat}{t:TypeId}{a b x y:Value}{fr:Nat×Nat}(h:w.heap[g]?=some (.cells #[a,b] t fr)):((w.setCell ⟨g,0,none⟩ x).setCell ⟨g,1,none⟩ y).heap[g]?=some (.cells #[x,y] t fr):=by
 have:=heap_set_same (i:=1) (u:=y) (heap_set_same (i:=0) (u:=x) h)
 simpa using this
theorem heap_set1 {w:World}{g:Nat}{t:TypeId}{a x:Value}{fr:Nat×Nat}(h:w.heap[g]?=some (.cells #[a] t fr)):(w.setCell ⟨g,0,none⟩ x).heap[g]?=some (.cells #[x] t fr):=by
 have:=heap_set_same (i:=0) (u:=x) h
 simpa using this
theorem blk {w:World}{g:Nat}{cs:Array Value}{t:TypeId}(h:w.heap[g]?=some (.cells cs t (0,0))):(∀o,w.cell? ⟨g,o,none⟩=cs[o]?)∧(∀o,w.frozen? ⟨g,o,none⟩=false)∧g < w.heap.size:=
 ⟨fun o=>cell_of_row w g o cs t (0,0) h,fun o=>by simp [World.frozen?,h],(Array.getElem?_eq_some_iff.1 h).1⟩
theorem zH {p:Prop}(h:p):Hid p:=Lib.hid h
theorem have_then {P G:Prop}(h:P)(k:P→G):G:=k h
theorem ret_int {k:IntKind}{a b:Int}(h:a=b):Ending.returned (.int k a)= .returned (.int k b):=by rw [h]
theorem ret_bool {a b:Bool}(h:a=b):Ending.returned (.bool a)= .returned (.bool b):=by rw [h]
theorem byS {p:Prop}(h:p:=by first|omega|(simp<;>omega)):p:=h
theorem byB {B:Nat}{w w':World}(h:Below B w w':=by repeat (first|with_reducible exact Below.refl _ _|with_reducible assumption|(with_reducible refine Below.drew ?_)|(with_reducible refine Below.alloc ?_ ?_ _;rotate_left;(first|omega|(simp<;>omega)))|(with_reducible refine Below.setCell ?_ ?_ _;rotate_left;(first|omega|(simp<;>omega)))|(with_reducible refine below_drewN ?_ _)|(refine Below.trans ?_ (Below.mono (by with_reducible assumption) (by first|omega|(simp<;>omega)))))):Below B w w':=h
theorem byH {p:Prop}(h:p:=by repeat (first|with_reducible exact heap_set2 (by with_reducible assumption)|with_reducible exact heap_set2 (heapAt _ _ _ rfl)|with_reducible exact heap_set1 (by with_reducible assumption)|with_reducible exact heap_set1 (heapAt _ _ _ rfl)|with_reducible assumption|(with_reducible refine heapAt _ _ _ ?_;first|rfl|(first|omega|(simp<;>omega)))|(with_reducible refine heap_drew ?_)|(with_reducible refine heap_drewN ?_)|(with_reducible refine (heap_alloc_old _ _ ?_).trans ?_;(first|omega|(simp<;>omega)))|(with_reducible refine heap_set_far ?_ ?_;rotate_left;(first|omega|(simp<;>omega))))):p:=h
theorem byN {p:Prop}(h:p:=by first|with_reducible exact heapAt _ _ _ (by first|rfl|omega|(simp<;>omega))|with_reducible exact heapAt_drew _ _ _ (by first|rfl|omega|(simp<;>omega))|with_reducible exact heapAt_drewN _ _ _ _ (by first|rfl|omega|(simp<;>omega))):p:=h
theorem kb {w1 W1 w2:World}{g:Nat}{o:Obj}(h:w1.heap[g]?=some o)(hb:Below W1.heap.size W1 w2)(hs:g < W1.heap.size:=by first|omega|(simp<;>omega))(hH:W1.heap[g]?=some o:=by repeat (first|with_reducible exact heap_set2 (by with_reducible assumption)|with_reducible exact heap_set2 (heapAt _ _ _ rfl)|with_reducible exact heap_set1 (by with_reducible assumption)|with_reducible exact heap_set1 (heapAt _ _ _ rfl)|with_reducible assumption|(with_reducible refine heapAt _ _ _ ?_;first|rfl|(first|omega|(simp<;>omega)))|(with_reducible refine heap_drew ?_)|(with_reducible refine heap_drewN ?_)|(with_reducible refine (heap_alloc_old _ _ ?_).trans ?_;(first|omega|(simp<;>omega)))|(with_reducible refine heap_set_far ?_ ?_;rotate_left;(first|omega|(simp<;>omega))))):w2.heap[g]?=some o:=(hb.block _ hs).trans hH
theorem kbb {G:Prop}{w:World}{g:Nat}{cs:Array Value}{t:TypeId}(h:w.heap[g]?=some (.cells cs t))(k:w.heap[g]?=some (.cells cs t)→(∀o,w.cell? ⟨g,o,none⟩=cs[o]?)→(∀o,w.frozen? ⟨g,o,none⟩=false)→g < w.heap.size→G):G:=k h (blk h).1 (blk h).2.1 (blk h).2.2
theorem armT (w:World){W1 w2:World}{G:Prop}(hb:Below W1.heap.size W1 w2)(k:Below w.heap.size w w2→w.heap.size≤w2.heap.size→W1.heap.size≤w2.heap.size→Below W1.heap.size W1 w2→G)(h:Below w.heap.size w w2:=by repeat (first|with_reducible exact Below.refl _ _|with_reducible assumption|(with_reducible refine Below.drew ?_)|(with_reducible refine Below.alloc ?_ ?_ _;rotate_left;(first|omega|(simp<;>omega)))|(with_reducible refine Below.setCell ?_ ?_ _;rotate_left;(first|omega|(simp<;>omega)))|(with_reducible refine below_drewN ?_ _)|(refine Below.trans ?_ (Below.mono (by with_reducible assumption) (by first|omega|(simp<;>omega)))))):G:=k h h.size hb.size hb
structure TyS (P:Program) (t e:TypeId) (z:Value) (size bytes:Nat):Prop where
 ht:P.underlying t=some (.slice e)
 info:∃i,P.info? e=some i∧i.zero=some z∧i.size=size∧i.bytes=bytes
 hzs:z.cells.size=size
 hsz:0 < size
theorem info_of {P:Program}{e:TypeId}{z:Value}{size bytes:Nat}(h:(P.info? e).map (fun i=>(i.zero,i.size,i.bytes))=some (some z,size,bytes)):∃i,P.info? e=some i∧i.zero=some z∧i.size=size∧i.bytes=bytes:=by
 cases hi:P.info? e with
 |none=>simp [hi] at h
 |some i=>rw [hi] at h;simp at h;exact ⟨i,rfl,h⟩
def Src (w:World) (A:Option Addr) (m size:Nat) (news:List Value):Prop:=
 news.length=m*size∧(0 < m→∃b o,A=some ⟨b,o,none⟩∧CellsAt w b o news)
theorem own_form {w:World}{base:Nat}{e:TypeId}{size:Nat}{v:Value}{n:Nat}{xs:List Value}(h:w.ownsRow base e size v n xs):
  ∃A c,v= .slice A n c∧n≤c∧c≤maxLen∧(A=none→c=0)∧xs.length=n*size∧
   ((A=none∧n=0∧c=0)∨∃g,A=some ⟨g,0,none⟩∧base≤g∧g < w.heap.size∧CellsAt w g 0 xs):=by
 rcases h.2 with ⟨rfl,rfl⟩|⟨g,cap,cur,rfl,hb,hh,hn,hm,hcs,ht⟩
 ·exact ⟨none,0,rfl,Nat.le_refl _,Nat.zero_le _,fun _=>rfl,h.1,.inl ⟨rfl,rfl,rfl⟩⟩
 ·refine ⟨some ⟨g,0,none⟩,cap,rfl,hn,hm,(fun h=>by cases h),h.1,.inr ⟨g,rfl,hb,(Array.getElem?_eq_some_iff.1 hh).1,fun j u hu=>?_⟩⟩
  rw [Nat.zero_add,cell_of_row w g j cur e (0,0) hh]
  rw [← ht,List.getElem?_take] at hu
  split at hu
  ·simpa using hu
  ·cases hu
section
variable {P : Program}
theorem run_append_none (w:World)(base:Nat){t e:TypeId}{z:Value}{size bytes:Nat}(T:TyS P t e z size bytes)(ty:TypeId)(v:Value)(n:Nat)(xs:List Value)
  (hown:w.ownsRow base e size v n xs) (c:Nat):(Builtin.append_ #[t,t] ty #[v,.slice none 0 c]).run P w= .ok v w:=by
 obtain ⟨i,hi,_,_,_⟩:=T.info
 have ht:=T.ht
 rcases hown.2 with ⟨rfl,rfl⟩|⟨g,cap,cur,rfl,_,_,hnc,_⟩
 ·simp [Builtin.append_,run_underlying ht,sizeOf,typeInfo,hi,Builtin.lenOf,Builtin.firstCells]
 ·simp [Builtin.append_,run_underlying ht,sizeOf,typeInfo,hi,Builtin.lenOf,Builtin.firstCells,hnc,storeCells]
theorem run_append_src (w:World)(base:Nat){t e:TypeId}{z:Value}{size bytes:Nat}(T:TyS P t e z size bytes)(ty:TypeId)(v:Value)(n:Nat)(xs:List Value)
  (hown:w.ownsRow base e size v n xs) (A:Option Addr) (m c:Nat) (news:List Value) (hsrc:Src w A m size news) (h1:∀u∈news,u.oneCell'=true)
  (h63:n+m≤maxLen) (hbytes:(n+m)*bytes≤140737488355328) (hbase:base≤w.heap.size):
  ∃v' w',(Builtin.append_ #[t,t] ty #[v,.slice A m c]).run P w= .ok v' w'∧w'.ownsRow base e size v' (n+m) (xs++news)∧w.grownBy w' v.ownBlock∧
   (v'.ownBlock=v.ownBlock∨v'.ownBlock=some w.heap.size):=by
 obtain ⟨i,hi,hz,hs,hb⟩:=T.info
 have none_:m=0→∀A',A=A'→A'=none→∃v' w',(Builtin.append_ #[t,t] ty #[v,.slice A m c]).run P w= .ok v' w'∧w'.ownsRow base e size v' (n+m) (xs++news)∧w.grownBy w' v.ownBlock∧
   (v'.ownBlock=v.ownBlock∨v'.ownBlock=some w.heap.size):=by
  rintro rfl A' rfl rfl
  have hn:news=[]:=List.eq_nil_of_length_eq_zero (by simpa using hsrc.1)
  subst hn
  exact ⟨v,w,run_append_none w base T ty v n xs hown c,by simpa using hown,⟨rfl,rfl,rfl,Nat.le_refl _,fun _ _ _=>rfl⟩,.inl rfl⟩
 cases A with
 |none=>
  rcases Nat.eq_zero_or_pos m with h0|h0
  ·exact none_ h0 _ rfl rfl
  ·obtain ⟨b,o,h,_⟩:=hsrc.2 h0;cases h
 |some ad=>
  have hcells:∀j u,news[j]?=some u→w.cell? (ad.add j)=some u:=by
   intro j u hu
   rcases Nat.eq_zero_or_pos m with h0|h0
   ·subst h0
    have hn:news=[]:=List.eq_nil_of_length_eq_zero (by simpa using hsrc.1)
    subst hn;simp at hu
   ·obtain ⟨b,o,h,hc⟩:=hsrc.2 h0
    injection h with h;subst h
    rw [Addr.add_lit]
    exact hc j u hu
  obtain ⟨v',w',hrun,h2,h3,_,h5⟩:=run_append_own_at (P:=P) w base t ty e i z size bytes T.ht hi hz hs hb T.hzs T.hsz v n xs hown ad m c news hsrc.1 hcells h1 h63 hbytes hbase
  exact ⟨v',w',hrun,h2,h3,h5⟩
theorem wp_app {w:World}{o:Oper}{a:Act}{K:Act→World→Prop}{Q:Exit→Act→World→Prop}(s x:Operand)(t:TypeId)
  (ho:o.op= .call {callee:= .builtin .append,args:=#[s,x],argTypes:=#[t,t]})
  (base:Nat) {e:TypeId} {z:Value} {size bytes:Nat} (T:TyS P t e z size bytes) (v:Value) (n:Nat) (xs:List Value) (hs:a.eval s=v) (hown:w.ownsRow base e size v n xs)
  (A:Option Addr) (m c:Nat) (news:List Value) (hx:a.eval x= .slice A m c) (hsrc:Src w A m size news) (h1:∀u∈news,u.oneCell'=true)
  (h63:n+m≤maxLen) (hbytes:(n+m)*bytes≤140737488355328) (hbase:base≤w.heap.size)
  (h:∀A' c' w',w'.ownsRow base e size (.slice A' (n+m) c') (n+m) (xs++news)→w.grownBy w' v.ownBlock→((Value.slice A' (n+m) c').ownBlock=v.ownBlock∨(Value.slice A' (n+m) c').ownBlock=some w.heap.size)→K (a.put o.dst (.slice A' (n+m) c')) w'):o.wp P a w K Q:=by
 obtain ⟨v',w',hr,h2,h3,h5⟩:=run_append_src (P:=P) w base T o.type v n xs hown A m c news hsrc h1 h63 hbytes hbase
 obtain ⟨A',c',rfl,_⟩:=own_form h2
 unfold Oper.wp execOp
 simp only [ho,resolve,invoke,builtin,Sem.run_bind,Sem.run_pure,Result.andThen_ok,List.map_toArray,List.map_cons,List.map_nil,hs,hx,hr]
 exact h A' c' w' h2 h3 h5
theorem wpList_app {w:World}{ops:Array Oper}{rest:List Oper}{o:Oper}{a:Act}{Q:Exit→Act→World→Prop}(hgd:o.guard=none)(s x:Operand)(t:TypeId)
  (ho:o.op= .call {callee:= .builtin .append,args:=#[s,x],argTypes:=#[t,t]})
  (base:Nat) {e:TypeId} {z:Value} {size bytes:Nat} (T:TyS P t e z size bytes) (v:Value) (n:Nat) (xs:List Value) (hs:a.eval s=v) (hown:w.ownsRow base e size v n xs)
  (A:Option Addr) (m c:Nat) (news:List Value) (hx:a.eval x= .slice A m c) (hsrc:Src w A m size news) (h1:∀u∈news,u.oneCell'=true)
  (h63:n+m≤maxLen) (hbytes:(n+m)*bytes≤140737488355328) (hbase:base≤w.heap.size)
  (h:∀A' c' w',w'.ownsRow base e size (.slice A' (n+m) c') (n+m) (xs++news)→w.grownBy w' v.ownBlock→((Value.slice A' (n+m) c').ownBlock=v.ownBlock∨(Value.slice A' (n+m) c').ownBlock=some w.heap.size)→wpList P ops Q rest (a.put o.dst (.slice A' (n+m) c')) w'):
  wpList P ops Q (o::rest) a w:=
 wpList_plain hgd fun _ hK=>wp_app s x t ho base T v n xs hs hown A m c news hx hsrc h1 h63 hbytes hbase fun A' c' w' h2 h3 h4=>hK _ _ (h A' c' w' h2 h3 h4)
theorem step_app {w:World}{ops:Array Oper}{o:Oper}{a:Act}{K:Act→World→Prop}{Q:Exit→Act→World→Prop}{E:Prop}(hgd:o.guard=none)(s x:Operand)(t:TypeId)
  (ho:o.op= .call {callee:= .builtin .append,args:=#[s,x],argTypes:=#[t,t]})
  (base:Nat) {e:TypeId} {z:Value} {size bytes:Nat} (T:TyS P t e z size bytes) (v:Value) (n:Nat) (xs:List Value) (hs:a.eval s=v) (hown:w.ownsRow base e size v n xs)
  (A:Option Addr) (m c:Nat) (news:List Value) (hx:a.eval x= .slice A m c) (hsrc:Src w A m size news) (h1:∀u∈news,u.oneCell'=true)
  (h63:n+m≤maxLen) (hbytes:(n+m)*bytes≤140737488355328) (hbase:base≤w.heap.size)
  (h:∀A' c' w',w'.ownsRow base e size (.slice A' (n+m) c') (n+m) (xs++news)→w.grownBy w' v.ownBlock→((Value.slice A' (n+m) c').ownBlock=v.ownBlock∨(Value.slice A' (n+m) c').ownBlock=some w.heap.size)→K (a.put o.dst (.slice A' (n+m) c')) w'):
  if Region.wanted o (yielded ops a.tmps)=true then Oper.wp P o a w K Q else E:=by
 have hw:Region.wanted o (yielded ops a.tmps)=true:=by simp [Region.wanted,hgd]
 rw [if_pos hw]
 exact wp_app s x t ho base T v n xs hs hown A m c news hx hsrc h1 h63 hbytes hbase h
end
theorem Sl.src {T:Type}{k:Nat}{f:T→List Value}{hf:∀x,(f x).length=k}{I:Nat→Prop}{w:World}{A:Option Addr}{c:Nat}{xs:List T}(h:Sl (Cod.flat k f hf) I w A c xs):
  Src w A xs.length k (xs.flatMap f):=by
 have hl:∀l:List T,(l.flatMap f).length=l.length*k:=by
  intro l
  induction l with
  |nil=>simp
  |cons x l ih=>simp only [List.flatMap_cons,List.length_append,List.length_cons,ih,hf];rw [Nat.add_mul];omega
 refine ⟨hl xs,fun hpos=>?_⟩
 obtain ⟨b,o,es,hA,_,_,_⟩:=h.elem 0 hpos
 refine ⟨b,o,hA,fun j u hu=>?_⟩
 have hk:0 < k:=by
  rcases Nat.eq_zero_or_pos k with h0|h0
  ·subst h0
   have:=(List.getElem?_eq_some_iff.1 hu).1
   rw [hl] at this;simp at this
  ·exact h0
 have hj:j < xs.length*k:=by have:=(List.getElem?_eq_some_iff.1 hu).1;rw [hl] at this;exact this
 have hq:j / k < xs.length:=Nat.div_lt_of_lt_mul (by rw [Nat.mul_comm];exact hj)
 obtain ⟨b',o',es',hA',_,he',hc'⟩:=h.elem (j / k) hq
 rw [hA] at hA'
 injection hA' with hA';injection hA' with e1 e2
 subst e1;subst e2
 have hget:(xs.flatMap f)[j]?=(f xs[j / k])[j % k]?:=by
  have key:∀(l:List T) (q r:Nat) (hq:q < l.length),r < k→(l.flatMap f)[q*k+r]?=(f l[q])[r]?:=by
   intro l
   induction l with
   |nil=>intro q r hq;simp at hq
   |cons x l ih=>
    intro q r hq hr
    cases q with
    |zero=>simp only [List.flatMap_cons,Nat.zero_mul,Nat.zero_add,List.getElem_cons_zero];rw [List.getElem?_append_left (by rw [hf];exact hr)]
    |succ q=>
     simp only [List.flatMap_cons,List.getElem_cons_succ]
     rw [List.getElem?_append_right (by rw [hf,Nat.add_mul];omega),hf]
     rw [show (q+1)*k+r - k=q*k+r by rw [Nat.add_mul];omega]
     exact ih q r (by simpa using hq) hr
  have:=key xs (j / k) (j % k) hq (Nat.mod_lt _ hk)
  rw [Nat.mul_comm (j / k) k,Nat.div_add_mod] at this
  exact this
 have e1:es'=f xs[j / k]:=he'
 rw [hget,← e1] at hu
 have:=hc' (j % k) u hu
 have e2:o+j / k*(Cod.flat k f hf).size+j % k=o+j:=by
  show o+j / k*k+j % k=o+j
  have:=Nat.div_add_mod j k
  rw [Nat.mul_comm] at this;omega
 rw [e2] at this
 exact this
theorem Src.of_new {w:World}{g:Nat}{t:TypeId}{cs:List Value}{fr:Nat×Nat}{m size:Nat}(h:w.heap[g]?=some (.cells cs.toArray t fr))(hl:cs.length=m*size):Src w (some ⟨g,0,none⟩) m size cs:=
 ⟨hl,fun _=>⟨g,0,rfl,fun j u hu=>by
  have:=cell_of_row w g (0+j) cs.toArray t fr h
  rw [this];simpa using hu⟩⟩
theorem Sl.take {T:Type}{e:Cod T}{I:Nat→Prop}{w:World}{A:Option Addr}{c:Nat}{xs:List T}(h:Sl e I w A c xs)(n:Nat):Sl e I w A c (xs.take n):=
 ⟨Nat.le_trans (List.length_take_le' n xs) h.cap,h.max,h.nil,fun i hi=>by
  have hi':i < xs.length:=Nat.lt_of_lt_of_le hi (List.length_take_le' n xs)
  obtain ⟨b,o,es,hA,hI,hr,hc⟩:=h.elem i hi'
  exact ⟨b,o,es,hA,hI,by rw [List.getElem_take];exact hr,hc⟩⟩
theorem sl_two {T:Type}{e:Cod T}{I:Nat→Prop}{w:World}{g:Nat}{t:TypeId}{A A':Option Addr}{c c' n n':Nat}{xs ys:List T}(hb:w.heap[g]?=some (.cells #[.slice A n c,.slice A' n' c'] t))(hI:I g)
  (hn:n=xs.length) (hn':n'=ys.length) (h:Sl e I w A c xs) (h':Sl e I w A' c' ys):Sl e.slice I w (some ⟨g,0,none⟩) 2 [xs,ys]:=by
 subst hn;subst hn'
 refine ⟨by simp,by unfold maxLen;omega,fun h=>(by cases h),fun i hi=>?_⟩
 have hcell:=fun j=>cell_of_row w g j _ t (0,0) hb
 match i,hi with
 |0,_=>exact ⟨g,0,_,rfl,hI,⟨A,c,rfl,h⟩,fun j u hu=>by
   have hj:j=0:=by have:=(List.getElem?_eq_some_iff.1 hu).1;simpa using this
   subst hj;rw [show 0+0*(Cod.slice e).size+0=0 by omega,hcell 0];simpa using hu⟩
 |1,_=>exact ⟨g,0,_,rfl,hI,⟨A',c',rfl,h'⟩,fun j u hu=>by
   have hj:j=0:=by have:=(List.getElem?_eq_some_iff.1 hu).1;simpa using this
   subst hj;rw [show 0+1*(Cod.slice e).size+0=1 by show 0+1*1+0=1;omega,hcell 1];simpa using hu⟩
theorem own_mono {w:World}{base base':Nat}{e:TypeId}{size:Nat}{v:Value}{n:Nat}{xs:List Value}(h:w.ownsRow base e size v n xs)(hb:base'≤base):w.ownsRow base' e size v n xs:=by
 refine ⟨h.1,?_⟩
 rcases h.2 with h0|⟨g,cap,cur,hv,hg,r⟩
 ·exact .inl h0
 ·exact .inr ⟨g,cap,cur,hv,Nat.le_trans hb hg,r⟩
theorem own_drew {w:World}{base:Nat}{e:TypeId}{size:Nat}{v:Value}{n:Nat}{xs:List Value}(h:w.ownsRow base e size v n xs):w.drew.ownsRow base e size v n xs:=h
theorem own_drewN {w:World}{base:Nat}{e:TypeId}{size:Nat}{v:Value}{n:Nat}{xs:List Value}(h:w.ownsRow base e size v n xs)(k:Nat):(w.drewN k).ownsRow base e size v n xs:=h
theorem one_one {v:Value}(h:v.oneCell'=true):∀u∈[v],u.oneCell'=true:=fun u hu=>by rw [List.mem_singleton.1 hu];exact h
theorem src_new {w:World}{g:Nat}{t:TypeId}{cs:List Value}{m size:Nat}(h:g=w.heap.size)(hl:cs.length=m*size):Src (w.alloc (.cells cs.toArray t)) (some ⟨g,0,none⟩) m size cs:=Src.of_new (heapAt w _ g h) hl
theorem src_new_drew {w:World}{g:Nat}{t:TypeId}{cs:List Value}{m size:Nat}(h:g=w.heap.size)(hl:cs.length=m*size):Src (w.alloc (.cells cs.toArray t)).drew (some ⟨g,0,none⟩) m size cs:=Src.of_new (heapAt w _ g h) hl
theorem grown_below {B:Nat}{a w w':World}{v:Value}(h:Below B a w)(hB:B≤w.heap.size){e:TypeId}{size n:Nat}{xs:List Value}(hown:w.ownsRow B e size v n xs)(hg:w.grownBy w' v.ownBlock):Below B a w':=
 h.grown hg hB fun k hk=>(hown.lt k hk).1
theorem one_int:∀(xs:List Int),∀u∈xs.flatMap (fun n=>[Value.int .i64 n]),u.oneCell'=true:=by
 intro xs u hu
 simp only [List.mem_flatMap,List.mem_singleton] at hu
 obtain ⟨n,_,rfl⟩:=hu
 rfl
theorem byR {p:Prop}(h:p:=by first|exact src_new (by simp) rfl|exact src_new_drew (by simp) rfl):p:=h
def Rng (a b:Nat):Nat→Prop:=fun k=>a≤k∧k < b
def LoR (B a b:Nat):Nat→Prop:=fun k=>k < B∨(a≤k∧k < b)
def KeepI (I:Nat→Prop) (w w':World):Prop:=∀k,I k→w'.heap[k]?=w.heap[k]?
theorem KeepI.refl (I:Nat→Prop)(w:World):KeepI I w w:=fun _ _=>rfl
theorem KeepI.alloc {I:Nat→Prop}{w w':World}(h:KeepI I w w')(hI:∀k,I k→k < w'.heap.size)(o:Obj):KeepI I w (w'.alloc o):=
 fun k hk=>(heap_alloc_old w' o (hI k hk)).trans (h k hk)
theorem KeepI.drew {I:Nat→Prop}{w w':World}(h:KeepI I w w'):KeepI I w w'.drew:=h
theorem KeepI.drewN {I:Nat→Prop}{w w':World}(h:KeepI I w w')(n:Nat):KeepI I w (w'.drewN n):=h
theorem KeepI.setCell {I:Nat→Prop}{w w':World}(h:KeepI I w w'){p:Addr}(hp:¬ I p.block)(u:Value):KeepI I w (w'.setCell p u):=
 fun k hk=>(Below.heap_setCell w' p u k (fun e=>hp (e ▸ hk))).trans (h k hk)
theorem KeepI.call {I:Nat→Prop}{w v w':World}{s:Nat}(h:KeepI I w v)(hb:Below s v w')(hI:∀k,I k→k < s):KeepI I w w':=
 fun k hk=>(hb.block k (hI k hk)).trans (h k hk)
theorem KeepI.mono {I J:Nat→Prop}{w w':World}(h:KeepI I w w')(hJ:∀k,J k→I k):KeepI J w w':=fun k hk=>h k (hJ k hk)
theorem KeepI.trans {I:Nat→Prop}{w v w':World}(h:KeepI I w v)(h':KeepI I v w'):KeepI I w w':=fun k hk=>(h' k hk).trans (h k hk)
theorem Sl.keepI {T:Type}{e:Cod T}{I:Nat→Prop}{w w':World}{A:Option Addr}{c:Nat}{xs:List T}(h:Sl e I w A c xs)(hk:KeepI I w w'):Sl e I w' A c xs:=h.keep hk
theorem Sl.rng {T:Type}{e:Cod T}{a b B:Nat}{w:World}{A:Option Addr}{c:Nat}{xs:List T}(h:Sl e (Rng a b) w A c xs)(hB:b≤B):Sl e (Low B) w A c xs:=
 h.mono fun _ hk=>Nat.lt_of_lt_of_le hk.2 hB
theorem byI {p:Prop}(h:p:=by repeat (first|with_reducible exact KeepI.refl _ _|with_reducible assumption|(with_reducible refine KeepI.drew ?_)|(with_reducible refine KeepI.drewN ?_ _)|((with_reducible refine KeepI.alloc ?_ ?_ _);rotate_left;(intro kkI hkI;simp only [Low,Rng,LoR] at hkI;first|omega|(simp<;>omega)|(rcases hkI with hkI|hkI<;>first|omega|(simp<;>omega))))|((with_reducible refine KeepI.setCell ?_ ?_ _);rotate_left;(intro hkI;simp only [Low,Rng,LoR] at hkI;first|omega|(simp at hkI<;>omega)))|(refine KeepI.call ?_ (by with_reducible assumption) (by (intro kkI hkI;simp only [Low,Rng,LoR] at hkI;first|omega|(simp<;>omega)|(rcases hkI with hkI|hkI<;>first|omega|(simp<;>omega))))))):p:=h
theorem byM {p:Prop}(h:p:=by (intro kkI hkI;simp only [Low,Rng,LoR] at hkI⊢;(try simp at hkI⊢);(first|omega|(rcases hkI with hkI|hkI<;>omega)))):p:=h
end
end Go.Proofs.YtinlmkhlgclbfabDoor
