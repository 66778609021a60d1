/- MemT ConfO -/
import Derived.Test.YtinlmkhlgclbfabWv06
namespace Go.Proofs.Ytinlmkhlgclbfab
open Go.RowKit
section
theorem flat_at {T:Type}{k:Nat}{f:T→List Value}(hf:∀x,(f x).length=k):∀(l:List T) (q r:Nat) (hq:q < l.length),r < k→(l.flatMap f)[q*k+r]?=(f l[q])[r]?:=by
 intro l
 induction l with
 |nil=>intro q r hq;simp at hq
 |cons x l ih=>
  intro q r hq hr
  cases q with
  |zero=>simp only [List.flatMap_cons,Nat.zero_mul,Nat.zero_add,List.getElem_cons_zero];rw [List.getElem?_append_left (by rw [hf];exact hr)]
  |succ q=>
   simp only [List.flatMap_cons,List.getElem_cons_succ]
   rw [List.getElem?_append_right (by rw [hf,Nat.add_mul];omega),hf]
   rw [show (q+1)*k+r - k=q*k+r by rw [Nat.add_mul];omega]
   exact ih q r (by simpa using hq) hr
theorem sl_block {T:Type}{k:Nat}{f:T→List Value}{hf:∀x,(f x).length=k}{I:Nat→Prop}{w:World}{g n:Nat}{t:TypeId}{cs:Array Value}{xs:List T}(h:w.heap[g]?=some (.cells cs t (0,0)))(hcs:cs.toList=xs.flatMap f)(hI:I g)(hn:xs.length≤n)(hm:n≤maxLen):
  Sl (Cod.flat k f hf) I w (some ⟨g,0,none⟩) n xs:=by
 refine ⟨hn,hm,fun e=>(by cases e),fun i hi=>⟨g,0,f xs[i],rfl,hI,rfl,fun j u hu=>?_⟩⟩
 rw [(blk h).1]
 have hj:j < k:=by have:=(List.getElem?_eq_some_iff.1 hu).1;rw [hf] at this;exact this
 show cs[0+i*k+j]?=_
 rw [Nat.zero_add,← Array.getElem?_toList,hcs,flat_at hf xs i j hi hj]
 exact hu
end
section
set_option maxRecDepth 100000
set_option maxHeartbeats 1000000
def oneCfg:TCfg:=⟨1,1,1,10,4,[⟨0,100⟩],[],[],[⟨0,50,40,30⟩]⟩
def RetCfg (c:TCfg) (w:World) (e:Ending) (w':World):Prop:=∃S,e= .returned (.agg #[.int .i64 c.sets,.int .i64 c.ways,.int .i64 c.doms,.int .i64 c.pad,.int .i64 c.quantum,.slice S.a0 c.slots.length S.n0,.slice S.a1 c.owners.length S.n1,.slice S.a2 c.chans.length S.n2,.slice S.a3 c.tasks.length S.n3])∧TCfg.At (Rng w.heap.size w'.heap.size) w' c S∧Below w.heap.size w w'
theorem lawOne (w:World):Calls Try.prog 49 #[] w (RetCfg oneCfg w):=by
 go_enter Try.func49,Try.ntmps49
 go_wp2_with fail
 refine bodyPost_ret (v:= .agg #[.int .i64 1,.int .i64 1,.int .i64 1,.int .i64 10,.int .i64 4,.slice (some ⟨w.heap.size+1,0,none⟩) 1 1,.slice none 0 0,.slice none 0 0,.slice (some ⟨w.heap.size+2,0,none⟩) 1 1]) (by simp [results,Try.results49,go_sem, *]) rfl ?_
 refine ⟨⟨some ⟨w.heap.size+1,0,none⟩,1,none,0,none,0,some ⟨w.heap.size+2,0,none⟩,1⟩,rfl,⟨?_,Sl.empty _ _ _,Sl.empty _ _ _,?_⟩,byB⟩
 ·exact sl_block (cs:=#[.int .i64 0,.int .i64 100]) (t:=37) byH rfl (by simp only [Rng];simp) (Nat.le_refl _) (by simp [maxLen,oneCfg])
 ·exact sl_block (cs:=#[.int .i64 0,.int .i64 50,.int .i64 40,.int .i64 30]) (t:=103) byH rfl (by simp only [Rng];simp) (Nat.le_refl _) (by simp [maxLen,oneCfg])
end
end Go.Proofs.Ytinlmkhlgclbfab
