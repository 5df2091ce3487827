/-
  THE CONTRACTS of circ.Make at every kind and forms, and of circ.Ands.
-/
import Derived.Test.YtklofgfkaaoipaaGreatDoorMMem
import Derived.Test.YtklofgfkaaoipaaGreatDoorMMakeK1
import Derived.Test.YtklofgfkaaoipaaGreatDoorMMakeK2
import Derived.Test.YtklofgfkaaoipaaGreatDoorMMakeK3
import Derived.Test.YtklofgfkaaoipaaGreatDoorMGate
import Derived.Test.YtklofgfkaaoipaaGreatDoorMHd
set_option maxHeartbeats 16000000
set_option maxRecDepth 100000
set_option linter.unusedSimpArgs false
set_option linter.unusedVariables false
namespace Go.Proofs.YtklofgfkaaoipaaGreatDoor
open Go.RowKit Go.Proofs.Tryz
variable {w:World}{t:TypeId}
theorem zH.but {B:Nat}{W:World}{b:Nat}{l:Array Value}{fr:Nat×Nat}(e:w.heap[b]? =some (.cells l t fr))(f:t≠83)(g:∀c,c≠b→W.heap[c]? =w.heap[c]?){B':Nat}(m:B≤B'):
  ∀{h:List (ByteArray×Int)} {i:Int} {j:Value},zH B w h i j→zH B' W h i j
 |[],_,_,n=>n
 |(_,_)::_,_,_,⟨k,d,o,q,a,p⟩=>⟨k,d,o,by omega,(g k (by intro d;subst d;rw [e] at a;simp at a;exact f a.2.1)).trans a,zH.but e f g m p⟩
def yN (a:Int)(f:Nat):Bool:=(a==1&&decide (f<2))||((a==2||a==3)&&decide (f<4))
theorem zh4 (b:Int)(f:Nat)(w:World)(a:yN b f=true):Calls prog 47 #[.int .i64 b,.int .u64 f] w (Ye w b.toNat f):=by
 unfold yN at a;simp only [Bool.or_eq_true,Bool.and_eq_true,beq_iff_eq,decide_eq_true_eq] at a;rcases a with ⟨rfl,a⟩ | ⟨rfl | rfl,a⟩
 ·exact zpv f a w
 ·exact zpw f a w
 ·exact zpx f a w
theorem zov (g:Int)(f:Nat)(w:World)(h:yN g f=false)(s:yC w):
  Calls prog 47 #[.int .i64 g,.int .u64 f] w fun l o=>∃e,l= .returned (.tuple #[.agg #[.int .i64 0,.slice none 0 0,.slice none 0 0],e])∧(∃u v,zH o.heap.size o u v e)∧Below w.heap.size w o:=by
 have p:Below w.heap.size w (w.alloc (.cells #[.int .i64 0,.slice none 0 0,.slice none 0 0] 109)):=(Below.refl _ _).alloc (Nat.le_refl _) _;have m:=Z (s.below p);have n:=Z p;clear s p
 by_cases k1:g=1
 ·subst k1
  have t:2≤f:=by simpa [yN] using h
  clear h;go_enter func47,ntmps47;go_wp2_with fail;refine (yV _ _ _ _ m).mono ?_;rintro l q ⟨e,rfl,c,a⟩;have d:=(a.block w.heap.size (by simp)).trans (heap_alloc_new w _);have i:=n.trans (a.mono (by simp));have b:=Z d;have j:=Z c;clear c d a;go_wp2_with ((with_reducible show wpList _ _ _ (⟨_,Op.store _ (.tmp 4) (.tmp 27),_,_,_,_⟩::_) _ _);refine wpList_store_row rfl 109 _ _ rfl w.heap.size _ rfl rfl 109 _ b yn rfl (by simp [Value.oneCell']) ?_);refine bodyPost_ret (ql rfl _ _ w.heap.size 109 #[.int .i64 0,.slice none 0 0,.slice none 0 0] _ _ rfl (setRow_heap _ _ _ _ _ _ b) underlying109 rfl yn) rfl ?_;refine ⟨e,rfl,⟨_,_,zH.but b (by decide) (fun r k=>setRow_other _ _ _ _ k) (by simp) j⟩,below_setRow i (Nat.le_refl _) _⟩
 ·by_cases k2:g=2
  ·subst k2
   have t:4≤f:=by simpa [yN] using h
   clear h k1;go_enter func47,ntmps47;go_wp2_with fail;refine (yV _ _ _ _ m).mono ?_;rintro l q ⟨e,rfl,c,a⟩;have d:=(a.block w.heap.size (by simp)).trans (heap_alloc_new w _);have i:=n.trans (a.mono (by simp));have b:=Z d;have j:=Z c;clear c d a;go_wp2_with ((with_reducible show wpList _ _ _ (⟨_,Op.store _ (.tmp 4) (.tmp 27),_,_,_,_⟩::_) _ _);refine wpList_store_row rfl 109 _ _ rfl w.heap.size _ rfl rfl 109 _ b yn rfl (by simp [Value.oneCell']) ?_);refine bodyPost_ret (ql rfl _ _ w.heap.size 109 #[.int .i64 0,.slice none 0 0,.slice none 0 0] _ _ rfl (setRow_heap _ _ _ _ _ _ b) underlying109 rfl yn) rfl ?_;refine ⟨e,rfl,⟨_,_,zH.but b (by decide) (fun r k=>setRow_other _ _ _ _ k) (by simp) j⟩,below_setRow i (Nat.le_refl _) _⟩
  ·by_cases k3:g=3
   ·subst k3
    have t:4≤f:=by simpa [yN] using h
    clear h k1 k2;go_enter func47,ntmps47;go_wp2_with fail;refine (yV _ _ _ _ m).mono ?_;rintro l q ⟨e,rfl,c,a⟩;have d:=(a.block w.heap.size (by simp)).trans (heap_alloc_new w _);have i:=n.trans (a.mono (by simp));have b:=Z d;have j:=Z c;clear c d a;go_wp2_with ((with_reducible show wpList _ _ _ (⟨_,Op.store _ (.tmp 4) (.tmp 27),_,_,_,_⟩::_) _ _);refine wpList_store_row rfl 109 _ _ rfl w.heap.size _ rfl rfl 109 _ b yn rfl (by simp [Value.oneCell']) ?_);refine bodyPost_ret (ql rfl _ _ w.heap.size 109 #[.int .i64 0,.slice none 0 0,.slice none 0 0] _ _ rfl (setRow_heap _ _ _ _ _ _ b) underlying109 rfl yn) rfl ?_;refine ⟨e,rfl,⟨_,_,zH.but b (by decide) (fun r k=>setRow_other _ _ _ _ k) (by simp) j⟩,below_setRow i (Nat.le_refl _) _⟩
   ·have:(g==1)=false:=by simpa using k1
    have:(g==2)=false:=by simpa using k2
    have:(g==3)=false:=by simpa using k3
    clear h k1 k2 k3;go_enter func47,ntmps47;go_wp2_with fail;refine (yV _ _ _ _ m).mono ?_;rintro l q ⟨e,rfl,c,a⟩;have d:=(a.block w.heap.size (by simp)).trans (heap_alloc_new w _);have i:=n.trans (a.mono (by simp));have b:=Z d;have j:=Z c;clear c d a;go_wp2_with ((with_reducible show wpList _ _ _ (⟨_,Op.store _ (.tmp 4) (.tmp 27),_,_,_,_⟩::_) _ _);refine wpList_store_row rfl 109 _ _ rfl w.heap.size _ rfl rfl 109 _ b yn rfl (by simp [Value.oneCell']) ?_);refine bodyPost_ret (ql rfl _ _ w.heap.size 109 #[.int .i64 0,.slice none 0 0,.slice none 0 0] _ _ rfl (setRow_heap _ _ _ _ _ _ b) underlying109 rfl yn) rfl ?_;refine ⟨e,rfl,⟨_,_,zH.but b (by decide) (fun r k=>setRow_other _ _ _ _ k) (by simp) j⟩,below_setRow i (Nat.le_refl _) _⟩
def yw (a:List Gate):Nat:=(a.filter fun b=>b.k==2).length
theorem zfu (a:List Gate)(k:Nat)(b:k<a.length):yw (a.take (k+1))=yw (a.take k)+if a[k].k==2 then 1 else 0:=by
 unfold yw;rw [List.take_succ_eq_append_getElem b,List.filter_append]
 by_cases c:a[k].k==2<;>simp [c]
theorem zgj (a:List Gate):yw a≤a.length:=List.length_filter_le _ _
theorem zbY:∀(a:List Gate) (c b:Nat) (d:c<a.length),b<3→(yT a)[c * 3+b]? =(a[c]).cells[b]?
 |f::a,0,b,_,e=>by
  simp only [yT,List.flatMap_cons,Nat.zero_mul,Nat.zero_add,List.getElem_cons_zero];rw [List.getElem?_append_left (by simp [Gate.cells];omega)]
 |f::a,c+1,b,d,e=>by
  have:=zbY a c b (by simpa using d) e;simp only [yT,List.flatMap_cons,List.getElem_cons_succ] at *;rw [List.getElem?_append_right (by simp [Gate.cells];omega)];rw [←this];congr 1;simp [Gate.cells];omega
theorem zmg (n:Int)(m t:Value)(b:List Gate)(w:World)(o:Arr w.heap.size w 3 m b.length (yT b)):
  Calls prog 49 #[.agg #[.int .i64 n,m,t]] w fun u v=>u= .returned (.int .i64 (yw b:Nat))∧Below w.heap.size w v:=by
 obtain ⟨_,_,rfl,_,x,y,p⟩:=o.open;have z:=Z p;unfold maxLen at x;clear p y o;go_enter func49,ntmps49;go_wp2_with fail;go_loopw [3,9] (fun A i wr=>∃a:Nat,a≤b.length∧i= .int .i64 a∧A= .int .i64 (yw (b.take a):Nat)∧Below w.heap.size w wr) (fun _ i _=>b.length-(intOf i).toNat)
 case atStart=>exact ⟨0,Nat.zero_le _,rfl,rfl,(Below.refl _ _).alloc (Nat.le_refl _) _⟩
 case round=>
  obtain ⟨a,_,rfl,rfl,c⟩:=hrel;have B:=zgj (b.take a);rw [List.length_take] at B
  by_cases q:a<b.length
  ·obtain ⟨e,f,rfl,C,r⟩:=z.out (by omega)
   have g:∀d,d<3→wr.cell? ⟨e,f+(a * 3+d),none⟩=(b[a]).cells[d]? :=fun d D=>by rw [c.cell C,r _ (by omega),zbY b a d q D]
   have E:wr.cell? ⟨e,f+a * 3,none⟩=some (.int .i64 b[a].k):=g 0 (by omega);have F:wr.cell? ⟨e,f+a * 3+1,none⟩=some (.int .i64 b[a].a):=g 1 (by omega);have G:wr.cell? ⟨e,f+a * 3+2,none⟩=some (.int .i64 b[a].b):=g 2 (by omega);have j:=Z (zfu b a q);generalize b[a]=k at E F G j;clear g r;have s:=c.size
   by_cases h:k.k=2
   ·have l:(k.k==2)=true:=by simpa using h
    clear h;go_wp2_with fail;go_roundw
    case rel=>exact ⟨a+1,by omega,by go_num,by rw [j.out,l];go_num,c.alloc s _⟩
    case measure=>simp [intOf];omega
   ·have l:(k.k==2)=false:=by simpa using h
    clear h;go_wp2_with fail;go_roundw
    case rel=>exact ⟨a+1,by omega,by go_num,by rw [j.out,l];rfl,c.alloc s _⟩
    case measure=>simp [intOf];omega
  ·obtain rfl:a=b.length:=by omega
   go_wp2_with fail;go_ret;exact ⟨by rw [List.take_length];rfl,c⟩
theorem tb {P:Program}{ops:Array Oper}{Q:Exit→Act→World→Prop}{md:Region.Mode}{w1:World}{fuel:Nat}{listed:Array Bool}{a a':Act}{w:World}(i:Nat){oi:Oper}{v:Value}
  (h:wpAnyH P md ops Q (Below w1.heap.size w1) fuel (listed.setIfInBounds i true) a' w)
  (hi:ops[i]? =some oi:=by exact rfl) (hs:Region.noSelect ops=true:=by kernel_rfl) (hf:Region.free md ops listed i=true:=by kernel_rfl) (hr:(Region.ready md ops listed).contains i=true:=by kernel_rfl)
  (hQ:∀c a w,Q (.panic c) (a.put oi.dst v) w→Q (.panic c) a w:=by exact fun _ _ _ h=>h) (hw:Region.wanted oi (yielded ops a.tmps)=true:=by exact rfl)
  (hy:∀w,(∀b o,b<w1.heap.size→w.cell? ⟨b,o,none⟩=w1.cell? ⟨b,o,none⟩)→(execOp a.eval oi).run P w= .ok (.value v) w:=by (intro w hSw;go_simp;(try with_reducible rfl)))
  (hS:Below w1.heap.size w1 w:=by assumption)
  (he:a.put oi.dst v=a':=by ((try simp only [Act.put,List.getElem_toArray,List.getElem_cons_succ,List.getElem_cons_zero,List.setIfInBounds_toArray,List.set_cons_zero,List.set_cons_succ])<;>exact rfl)):
  wpAnyH P md ops Q (Below w1.heap.size w1) (fuel+1) listed a w:=wpAnyH_take hi hs hf hr hQ (.inl ⟨hw,fun w hw=>hy w (zp5 hw).1⟩) hS (he▸h)
abbrev C7 (W:World)(g:Nat)(a b c d e f h:Value):Prop:=
 W.cell? ⟨g,0,none⟩=some a∧W.cell? ⟨g,1,none⟩=some b∧W.cell? ⟨g,2,none⟩=some c∧W.cell? ⟨g,3,none⟩=some d∧W.cell? ⟨g,4,none⟩=some e∧W.cell? ⟨g,5,none⟩=some f∧W.cell? ⟨g,6,none⟩=some h
theorem c7 {g:Nat}{a b c d e f h:Value}(i:w.heap[g]? =some (.cells #[a,b,c,d,e,f,h] t (0,0))):C7 w g a b c d e f h:=by
 refine ⟨?_,?_,?_,?_,?_,?_,?_⟩<;>simp [World.cell?,i]
end Go.Proofs.YtklofgfkaaoipaaGreatDoor
