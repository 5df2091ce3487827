/-
  THE CONTRACT of a maker's method gate, and the words for a maker in memory.
-/
import Derived.Test.YtklofgfkaaoipaaGreatDoorMMem
import Derived.Deep.QuietTactic
import Derived.BigQuiet
import Derived.Deep.AppendLies
import Derived.Deep.RegionHeld3
import Derived.Deep.MidRow
import Derived.Laws.CopyOwn
import Derived.WalkKit
import Derived.WalkSpells
import Derived.Test.YtklofgfkaaoipaaGreatDoorMHd
set_option maxHeartbeats 16000000
set_option maxRecDepth 100000
set_option linter.unusedSimpArgs false
set_option linter.unusedVariables false
namespace Go.Proofs.YtklofgfkaaoipaaGreatDoor
open Go.RowKit Go.Proofs.Tryz
variable {bm B N b k n:Nat}{w h W:World}{r:List Int}{t e:TypeId}{fr:Nat×Nat}{D:Array Value}{ops:Array Oper}{rest:List Oper}{a:Act}{Q:Exit→Act→World→Prop}{v:Value}{E:List Value}
structure Gate where
 k:Int
 a:Int
 b:Int
def Gate.cells (g:Gate):List Value:=[.int .i64 g.k,.int .i64 g.a,.int .i64 g.b]
def yT (a:List Gate):List Value:=a.flatMap Gate.cells
theorem zbC (a b:List Gate):yT (a++b)=yT a++yT b:=by simp [yT]
theorem zk3:(prog.info? 194).map (fun a=>(a.zero,a.size,a.bytes))=some (some (.agg #[.int .i64 0,.int .i64 0,.int .i64 0]),3,24):=by kernel_rfl
def zE (base bm:Nat)(w:World)(c:Nat)(a:List Gate):Prop:=
 bm<base∧base≤w.heap.size∧∃b,w.heap[bm]? =some (.cells #[.int .i64 c,b,.slice none 0 0] 183 (0,0))∧w.ownsRow base 194 3 b a.length (yT a)
structure MkFr (base bm:Nat)(w w':World):Prop where
 os:w'.os=w.os
 tape:w'.tape=w.tape
 output:w'.output=w.output
 size:w.heap.size≤w'.heap.size
 block:∀k,k<w.heap.size→k≠bm→(k<base∨∀cur fr,w.heap[k]? ≠some (.cells cur 194 fr))→w'.heap[k]? =w.heap[k]?
theorem MkFr.refl (base bm:Nat)(w:World):MkFr base bm w w:=⟨rfl,rfl,rfl,Nat.le_refl _,fun _ _ _ _=>rfl⟩
theorem MkFr.trans {base:Nat}{a b c:World}(d:MkFr base bm a b)(k:MkFr base bm b c):MkFr base bm a c:=
 ⟨k.os.trans d.os,k.tape.trans d.tape,k.output.trans d.output,Nat.le_trans d.size k.size,fun f g h e=>by
  have i:=d.block f g h e;rw [k.block f (Nat.lt_of_lt_of_le g d.size) h (by rcases e with e | e;exact .inl e;exact .inr (fun j l=>by rw [i];exact e j l)),i]⟩
theorem MkFr.of_below {base:Nat}(a:Below w.heap.size w h):MkFr base bm w h:=⟨a.os,a.tape,a.output,a.size,fun b c _ _=>a.block b c⟩
theorem MkFr.below {base:Nat}(a:MkFr base bm w h)(c:B≤w.heap.size)(d:B≤bm)(e:B≤base):Below B w h:=
 ⟨a.os,a.tape,a.output,a.size,fun b _=>a.block b (by omega) (by omega) (.inl (by omega))⟩
theorem MkFr.drewN {base:Nat}(a:MkFr base bm w h)(n:Nat):MkFr base bm w (h.drewN n):=⟨a.os,a.tape,a.output,a.size,a.block⟩
variable {A:List Gate}
theorem zE.drewN {base:Nat}(a:zE base bm w N A)(n:Nat):zE base bm (w.drewN n) N A:=a
theorem zmJ (base bm f:Nat)(c:List Gate)(k a b:Int)(w:World)(z:zE base bm w f c)(L:f≤1000)(M:c.length≤100000):
  Calls prog 89 #[.pointer (some ⟨bm,0,none⟩),.int .i64 k,.int .i64 a,.int .i64 b] w fun d r=>
   d= .returned (.int .i64 (f+c.length:Nat))∧zE base bm r f (c++[⟨k,a,b⟩])∧MkFr base bm w r:=by
 obtain ⟨A,B,s,p,l⟩:=z;have C:w.cell? ⟨bm,1,none⟩=some s:=by simp [World.cell?,p]
 go_enter func89,ntmps89;go_wp2_with (at_builtin;refine yS rfl _ _ 107 rfl 194 _ 3 24 underlying107 zk3 rfl (by decide) #[_,_,_] _ _ _ _ l rfl rfl rfl (by intro _ t;simp at t;rcases t with rfl | rfl | rfl<;>rfl) B (by omega) (by unfold maxLen;omega) ?_;intro _ m u e _;go_must (obtain ⟨g,h,rfl,_,_⟩:=u.form (by omega);have n:=(e.block bm (by omega) (fun d=>by have:=l.lt _ d.symm;omega)).trans p;have D:m.cell? ⟨bm,1,none⟩=some s:=(by simp [World.cell?,n]);have E:m.frozen? ⟨bm,1,none⟩=false:=(by simp [World.frozen?,n]);have F:=Z n;clear n));have v:=Z (heap_setCell (j:=1) F (.slice (some ⟨g,0,none⟩) (c.length+1) h));have q:MkFr base bm w (m.setCell ⟨bm,1,none⟩ (.slice (some ⟨g,0,none⟩) (c.length+1) h)):=by
  refine ⟨e.os,e.tape,e.output,by simpa using e.size,fun k G H o=> ?_⟩;rw [qe H];refine e.block k G (fun d=> ?_);rcases o with o | o
  ·have:=l.lt _ d.symm;omega
  ·rcases l.2 with ⟨rfl,_⟩ | ⟨_,_,_,rfl,_,I,_⟩
   ·simp [Value.ownBlock] at d
   ·simp [Value.ownBlock] at d;subst d;exact o _ _ I
 have x:=ownsRow_setCell_other u (a:=⟨bm,1,none⟩) (by simp [Value.ownBlock];omega) (.slice (some ⟨g,0,none⟩) (c.length+1) h);have J:=q.size;generalize m.setCell ⟨bm,1,none⟩ (.slice (some ⟨g,0,none⟩) (c.length+1) h)=y at v q x J ⊢;have i:=v.out;simp at i;have:y.cell? ⟨bm,0,none⟩=some (.int .i64 f):=by simp [World.cell?,i]
 have:y.cell? ⟨bm,1,none⟩=some (.slice (some ⟨g,0,none⟩) (c.length+1) h):=by simp [World.cell?,i]
 have K:=Z i;clear i D E C p;go_quiet (fail);go_wp2;go_ret;refine ⟨QL (by omega),zE.drewN ⟨A,by omega,_,K,?_⟩ _,q.drewN _⟩;rw [zbC,List.length_append];exact x
def gt (d:Nat)(k a b:Int)(c:List Gate):Int×List Gate:=(((d+c.length:Nat):Int),c++[⟨k,a,b⟩])
theorem Qi (d:Nat)(k a b:Int)(c:List Gate):(gt d k a b c).2.length=c.length+1:=by simp [gt]
def YR (d:Nat)(a b c:Int)(h:List Gate):Int×List Gate:=
 let e:=gt d 1 a c h;let f:=gt d 1 b c e.2;let g:=gt d 2 e.1 f.1 f.2;gt d 1 c g.1 g.2
theorem zb1 (e:Nat)(a b c:Int)(d:List Gate):(YR e a b c d).2.length=d.length+4:=by simp [YR,gt]
theorem Qh (base bm c:Nat)(d:List Gate)(k a b:Int)(w:World)(f:zE base bm w c d)(g:c≤1000)(h:d.length≤100000):
  Calls prog 89 #[.pointer (some ⟨bm,0,none⟩),.int .i64 k,.int .i64 a,.int .i64 b] w fun i e=>
   i= .returned (.int .i64 (gt c k a b d).1)∧zE base bm e c (gt c k a b d).2∧MkFr base bm w e:=zmJ base bm c d k a b w f g h
theorem zcX (base bm d:Nat)(f:List Gate)(a b c:Int)(w:World)(i:zE base bm w d f)(g:d≤1000)(r:f.length≤90000):
  Calls prog 139 #[.pointer (some ⟨bm,0,none⟩),.int .i64 a,.int .i64 b,.int .i64 c] w fun e h=>
   e= .returned (.int .i64 (YR d a b c f).1)∧zE base bm h d (YR d a b c f).2∧MkFr base bm w h:=by
 unfold YR;go_enter func139,ntmps139;go_wp2_with fail;refine (Qh base bm d _ _ _ _ _ i g (by omega)).mono ?_;rintro e _ ⟨rfl,j,k⟩;go_wp2_with fail;refine (Qh base bm d _ _ _ _ _ j g (by simp only [Qi];omega)).mono ?_;rintro e _ ⟨rfl,l,m⟩;go_wp2_with fail;refine (Qh base bm d _ _ _ _ _ l g (by simp only [Qi];omega)).mono ?_;rintro e _ ⟨rfl,n,o⟩;go_wp2_with fail;refine (Qh base bm d _ _ _ _ _ n g (by simp only [Qi];omega)).mono ?_;rintro e _ ⟨rfl,p,q⟩;go_wp2_with fail;go_ret;exact ⟨rfl,p,((k.trans m).trans o).trans q⟩
def pad (r:List Int):List Int:=r++List.replicate (64-r.length) 0
theorem zcH (r:List Int)(a:r.length≤64):(pad r).length=64:=by simp [pad];omega
theorem zai (r:List Int)(a:r.length=64):pad r=r:=by simp [pad,a]
theorem zgX (r:List Int)(x:Int)(d:r.length<64):(ints (pad r)).toArray.setIfInBounds r.length (.int .i64 x)=(ints (pad (r++[x]))).toArray:=by
 obtain ⟨a,b⟩:∃a,64-r.length=a+1:=⟨64-r.length-1,by omega⟩;have c:64-(r.length+1)=a:=by omega
 simp only [pad,List.length_append,List.length_singleton,b,c,List.replicate_succ,ints,List.map_append,List.map_cons,List.map_nil,List.setIfInBounds_toArray]
 congr 1
 have:r.length=(r.map (Value.int .i64)).length:=by simp
 rw [this,List.set_append_right _ _ (Nat.le_refl _)];simp
theorem QQ (a:w.heap[b]? =some (.cells (ints (pad r)).toArray t fr))(c:r.length=k)(d:k<64):
  w.cell? ⟨b,k,none⟩=some (.int .i64 0):=by
 subst c;rw [cell_of_row _ _ _ _ _ _ a];simp only [ints,pad,List.map_append,List.map_replicate,List.getElem?_toArray];rw [List.getElem?_append_right (by simp),List.length_map,Nat.sub_self,List.getElem?_replicate,if_pos (by omega)]
theorem qH (a:w.heap[b]? =some (.cells (ints r).toArray t fr))(c:k<r.length):
  w.cell? ⟨b,k,none⟩=some (.int .i64 r[k]):=by
 rw [cell_of_row _ _ _ _ _ _ a];simp [ints,c]
theorem zhH:(prog.info? 185).map (·.size)=some 64:=by kernel_rfl
theorem qQ (r:List Int)(a:r.length=64):(prog.info? 185).map (·.size)=some (ints r).toArray.size:=by rw [zhH];simp [ints,a]
theorem Z1 (r:List Int):(ints r).toArray.all (·.oneCell')=true:=all_oneCell_toArray (zaV r)
def qy (i:Int)(n:Nat):List Int:=(List.range n).map fun (a:Nat)=>64 * i+(a:Int)
theorem qt (i:Int)(n:Nat):(qy i n).length=n:=by simp [qy]
theorem zhU (i:Int)(n:Nat):qy i (n+1)=qy i n++[64 * i+(n:Int)]:=by simp [qy,List.range_succ]
theorem QE (i:Int)(m:Value)(w:World)(l:0≤i)(n:i≤10):
  Calls prog 86 #[m,.int .i64 i] w fun g h=>g= .returned (.agg (ints (qy i 64)).toArray)∧Below w.heap.size w h:=by
 go_enter func86,ntmps86;go_wp2_with fail;go_loopw [7] (fun d wr=>∃a:Nat,a≤64∧d= .int .i64 a∧wr.heap[w.heap.size+1]? =some (.cells (ints (pad (qy i a))).toArray 185 (0,0))∧wr.heap[w.heap.size]? =some (.cells (ints (pad [])).toArray 185 (0,0))∧Below w.heap.size w wr) (fun d _=>64-(intOf d).toNat)
 case atStart=>exact ⟨0,by omega,rfl,heap_alloc2_new _ _ _,heap_alloc2_old _ _ _,((Below.refl _ _).alloc (Nat.le_refl _) _).alloc (by simp) _⟩
 case round=>
  obtain ⟨a,_,rfl,b,c,e⟩:=hrel;have:=lt_of_block b
  by_cases f:a<64
  ·have:=QQ b (qt _ _) f
   have:=frozen_of_row wr (w.heap.size+1) a _ _ b;have j:=Z b;have k:=Z c;clear b c;go_wp2;go_roundw
   case rel=>
    refine ⟨a+1,by omega,by go_num,?_,?_,e.setCell (by simp) _⟩
    ·rw [heap_setCell j.out,zhU,←zgX _ _ (by simpa [qt] using f),qt]
    ·rw [qe (by simp)];exact k
   case measure=>simp [intOf];omega
  ·obtain rfl:a=64:=by omega
   rw [zai _ (qt _ _)] at b;go_wp2_with (first | (refine wpList_load_row rfl 185 _ rfl (w.heap.size+1) rfl 185 _ _ _ b underlying185 rfl (qQ _ (qt _ _)) ?_) | (refine wpList_store_row rfl 185 _ _ rfl w.heap.size _ rfl rfl 185 _ c (qQ _ (qt _ _)) (by simp [qP,qt,zcH]) (Z1 _) ?_));exact bodyPost_ret (results_cell_row rfl _ _ w.heap.size 185 _ _ _ rfl (setRow_heap _ _ _ _ _ _ c) underlying185 rfl (qQ _ (qt _ _))) rfl ⟨rfl,below_setRow e (Nat.le_refl _) _⟩
theorem MkFr.row {base:Nat}(c:MkFr base bm w h)(a:w.heap[b]? =some (.cells D 185 fr))(d:b≠bm):
  h.heap[b]? =some (.cells D 185 fr):=by
 rw [c.block b (lt_of_block a) d (.inr (fun _ _=>by rw [a];simp)),a]
theorem zF {j c:Nat}(a:c≠b)(v:Value):(w.setCell ⟨b,j,none⟩ v).cell? ⟨c,k,none⟩=w.cell? ⟨c,k,none⟩:=
 World.cell?_of_block (qe a v)
theorem MkFr.setCell {base:Nat}(a:MkFr base bm w h)(g:w.heap.size≤b)(k:Nat)(v:Value):MkFr base bm w (h.setCell ⟨b,k,none⟩ v):=
 ⟨a.os,a.tape,a.output,by simpa using a.size,fun c d e f=>(qe (by omega) v).trans (a.block c d e f)⟩
theorem zE.setCell {base:Nat}(g:zE base bm w N A)(d:w.heap[b]? =some (.cells D 185 (0,0)))(k:Nat)(v:Value):
  zE base bm (w.setCell ⟨b,k,none⟩ v) N A:=by
 obtain ⟨h,i,j,a,e⟩:=g;have l:bm≠b:=by intro c;subst c;rw [d] at a;simp at a
 refine ⟨h,by simpa using i,j,(qe l v).trans a,ownsRow_setCell_other e ?_ v⟩;rcases e.2 with ⟨rfl,_⟩ | ⟨_,_,_,rfl,_,f,_⟩
 ·simp [Value.ownBlock]
 ·simp only [Value.ownBlock,ne_eq,Option.some.injEq]
  intro c;subst c;rw [d] at f;simp at f
theorem MkFr.setRow {base:Nat}(a:MkFr base bm w h)(i:w.heap.size≤b)(c:Array Value):MkFr base bm w (h.setRow b c):=
 ⟨a.os,a.tape,a.output,by simpa using a.size,fun d e f g=>(setRow_other h b d c (by omega)).trans (a.block d e f g)⟩
theorem zE.setRow {base:Nat}(i:zE base bm w N A)(g:w.heap[b]? =some (.cells D 185 (0,0)))(a:Array Value):
  zE base bm (w.setRow b a) N A:=by
 obtain ⟨j,k,l,c,d⟩:=i;have m:bm≠b:=by intro e;subst e;rw [g] at c;simp at c
 refine ⟨j,by simpa using k,l,(setRow_other w b bm a m).trans c,?_⟩;rcases d.2 with n | ⟨h,o,p,q,r,f,s⟩
 ·exact ⟨d.1,.inl n⟩
 ·refine ⟨d.1,.inr ⟨h,o,p,q,r,(setRow_other w b h a ?_).trans f,s⟩⟩
  intro e;subst e;rw [g] at f;simp at f
theorem zE.below {base:Nat}(b:zE base bm w N A)(a:Below w.heap.size w h):zE base bm h N A:=by
 obtain ⟨c,d,e,f,g⟩:=b;exact ⟨c,Nat.le_trans d a.size,e,(a.block bm (by omega)).trans f,Below.owns g a⟩
theorem zE.ne {base:Nat}(a:zE base bm w N A):bm<w.heap.size:=by have:=a.1;have:=a.2.1;omega
theorem MkFr.drew {base:Nat}(a:MkFr base bm w h):MkFr base bm w h.drew:=⟨a.os,a.tape,a.output,a.size,a.block⟩
theorem zob (w:World)(a b c d:Obj):((((w.alloc a).alloc b).alloc c).alloc d).heap[w.heap.size]? =some a∧((((w.alloc a).alloc b).alloc c).alloc d).heap[w.heap.size+1]? =some b∧
  ((((w.alloc a).alloc b).alloc c).alloc d).heap[w.heap.size+1+1]? =some c∧((((w.alloc a).alloc b).alloc c).alloc d).heap[w.heap.size+1+1+1]? =some d∧Below w.heap.size w ((((w.alloc a).alloc b).alloc c).alloc d):=by
 have e:(w.alloc a).heap.size=w.heap.size+1:=World.size_alloc _ _;have f:((w.alloc a).alloc b).heap.size=w.heap.size+1+1:=by rw [World.size_alloc,e]
 have j:(((w.alloc a).alloc b).alloc c).heap.size=w.heap.size+1+1+1:=by rw [World.size_alloc,f]
 have k:=heap_alloc_new w a;have g:=heap_alloc_new (w.alloc a) b;have h:=heap_alloc_new ((w.alloc a).alloc b) c;have i:=heap_alloc_new (((w.alloc a).alloc b).alloc c) d;rw [e] at g;rw [f] at h;rw [j] at i;refine ⟨?_,?_,?_,i,((((Below.refl _ _).alloc (Nat.le_refl _) _).alloc (by omega) _).alloc (by omega) _).alloc (by omega) _⟩
 ·rw [heap_alloc_old _ _ (by omega),heap_alloc_old _ _ (by omega),heap_alloc_old _ _ (by omega)];exact k
 ·rw [heap_alloc_old _ _ (by omega),heap_alloc_old _ _ (by omega)];exact g
 ·rw [heap_alloc_old _ _ (by omega)];exact h
theorem ZB (a:w.heap[b]? =some (.cells (ints (pad r)).toArray t fr))(k:Nat)(c:r.length=k)(d:k<64)(x:Int):
  (w.setCell ⟨b,k,none⟩ (.int .i64 x)).heap[b]? =some (.cells (ints (pad (r++[x]))).toArray t fr):=by
 subst c;rw [heap_setCell a,zgX _ _ d]
def QD (d:Nat)(a b:List Int)(e:List Gate):Nat→List Int×List Gate
 |0=>([],e)
 |c+1=>let f:=QD d a b e c;let g:=gt d 1 (a.getD c 0) (b.getD c 0) f.2;(f.1++[g.1],g.2)
theorem YB (d:Nat)(a b:List Int)(c:List Gate)(k:Nat):(QD d a b c k).1.length=k∧(QD d a b c k).2.length=c.length+k:=by
 induction k with
 |zero=>simp [QD]
 |succ k ih=>simp [QD,gt,ih];omega
theorem zcT (base bm d:Nat)(e:List Gate)(a b:List Int)(w:World)(E:a.length=64)(F:b.length=64)(q:zE base bm w d e)(G:d≤1000)(O:e.length≤90000):
  Calls prog 87 #[.pointer (some ⟨bm,0,none⟩),.agg (ints a).toArray,.agg (ints b).toArray] w fun r s=>
   r= .returned (.agg (ints (QD d a b e 64).1).toArray)∧zE base bm s d (QD d a b e 64).2∧MkFr base bm w s:=by
 go_enter func87,ntmps87;go_wp2_with fail;go_loopw [9] (fun m wr=>∃c:Nat,c≤64∧m= .int .i64 c∧zE base bm wr d (QD d a b e c).2∧wr.heap[w.heap.size]? =some (.cells (ints a).toArray 185 (0,0))∧wr.heap[w.heap.size+1]? =some (.cells (ints b).toArray 185 (0,0))∧
   wr.heap[w.heap.size+1+1]? =some (.cells (ints (pad [])).toArray 185 (0,0))∧wr.heap[w.heap.size+1+1+1]? =some (.cells (ints (pad (QD d a b e c).1)).toArray 185 (0,0))∧MkFr base bm w wr) (fun m _=>64-(intOf m).toNat)
 case atStart=>
  have h:=zob w (.cells (ints a).toArray 185) (.cells (ints b).toArray 185) (.cells (ints (pad [])).toArray 185) (.cells (ints (pad [])).toArray 185);exact ⟨0,by omega,rfl,q.below h.2.2.2.2,h.1,h.2.1,h.2.2.1,h.2.2.2.1,MkFr.of_below h.2.2.2.2⟩
 case round=>
  obtain ⟨c,_,rfl,t,n,o,i,g,u⟩:=hrel;have v:=YB d a b e c;have j:=Z v;clear v;have:=lt_of_block g;have:bm<w.heap.size:=q.ne
  by_cases l:c<64
  ·have H:=qH n (k:=c) (by omega)
   have I:=qH o (k:=c) (by omega);have:=QQ g j.1 l;have:=frozen_of_row wr (w.heap.size+1+1+1) c _ _ g;have x:=Z n;have y:=Z o;have J:=Z i;have p:=Z g;have K:(QD d a b e c).2.length≤100000:=by have:=j.2;omega
   have L:zE base bm wr.drew d (QD d a b e c).2:=t;clear n o i g;go_wp2_with fail;go_region_held3 (fun z=>z.cell? ⟨w.heap.size,c,none⟩=some (.int .i64 a[c])∧z.cell? ⟨w.heap.size+1,c,none⟩=some (.int .i64 b[c])) (first | exact ⟨H,I⟩ | exact ⟨A,B⟩ | exact ⟨(zF (by omega) _).trans A,(zF (by omega) _).trans B⟩)
    (first | (go_at_call 89;refine (Qh base bm d _ _ _ _ _ L G K).mono ?_;rintro r M ⟨rfl,N,f⟩;have:=QQ (f.row p (by omega)) j.1 l;have A:=qH (f.row x (by omega)) (k:=c) (by omega);have B:=qH (f.row y (by omega)) (k:=c) (by omega);have:=frozen_of_row M (w.heap.size+1+1+1) c _ _ (f.row p (by omega))))
   go_wp2_with fail;go_roundw
   case rel=>
    have C:QD d a b e (c+1)=((QD d a b e c).1++[(gt d 1 a[c] b[c] (QD d a b e c).2).1],(gt d 1 a[c] b[c] (QD d a b e c).2).2):=by
     simp [QD,List.getD,E,F,l]
    have D:=f.row p (by omega);refine ⟨c+1,by omega,by go_num,?_,?_,?_,?_,?_,(u.drew.trans f).setCell (by omega) _ _⟩
    ·rw [C];exact N.setCell D _ _
    ·rw [qe (by omega)];exact f.row x (by omega)
    ·rw [qe (by omega)];exact f.row y (by omega)
    ·rw [qe (by omega)];exact f.row J (by omega)
    ·rw [C,heap_setCell D,←zgX _ _ (by rw [j.1];exact l),j.1]
   case measure=>simp [intOf];omega
  ·obtain rfl:c=64:=by omega
   have k:=(YB d a b e 64).1;rw [zai _ k] at g;go_wp2_with (first | (refine wpList_load_row rfl 185 _ rfl (w.heap.size+1+1+1) rfl 185 _ _ _ g underlying185 rfl (qQ _ k) ?_) | (refine wpList_store_row rfl 185 _ _ rfl (w.heap.size+1+1) _ rfl rfl 185 _ i (qQ _ k) (by simp [qP,k,zcH]) (Z1 _) ?_));exact bodyPost_ret (results_cell_row rfl _ _ (w.heap.size+1+1) 185 _ _ _ rfl (setRow_heap _ _ _ _ _ _ i) underlying185 rfl (qQ _ k)) rfl ⟨rfl,t.setRow i _,u.setRow (by omega) _⟩
def qX (c:Nat)(a b:List Int)(i:List Gate):Nat→List Int×Int×List Gate
 |0=>let e:=gt c 1 (a.getD 0 0) (b.getD 0 0) i;let f:=gt c 2 (a.getD 0 0) (b.getD 0 0) e.2;([e.1],f.1,f.2)
 |d+1=>let g:=qX c a b i d;let e:=gt c 1 (a.getD (d+1) 0) (b.getD (d+1) 0) g.2.2;let h:=gt c 1 e.1 g.2.1 e.2
  let f:=if d+1<63 then YR c (a.getD (d+1) 0) (b.getD (d+1) 0) g.2.1 h.2 else (g.2.1,h.2)
  (g.1++[h.1],f.1,f.2)
theorem Yp (d:Nat)(a b:List Int)(c:List Gate)(n:Nat):(qX d a b c n).1.length=n+1∧(qX d a b c n).2.2.length≤c.length+2+6 * n:=by
 induction n with
 |zero=>simp [qX,gt]
 |succ n ih=>simp only [qX];split<;>simp [Qi,zb1,ih]<;>omega
theorem zci (base bm c:Nat)(e:List Gate)(a b:List Int)(w:World)(C:a.length=64)(D:b.length=64)(W:zE base bm w c e)(q:c≤1000)(aR:e.length≤80000):
  Calls prog 88 #[.pointer (some ⟨bm,0,none⟩),.agg (ints a).toArray,.agg (ints b).toArray] w fun p X=>
   p= .returned (.agg (ints (qX c a b e 63).1).toArray)∧zE base bm X c (qX c a b e 63).2.2∧MkFr base bm w X:=by
 have an:(ints a)[0]? =some (.int .i64 a[0]):=yY a 0 (by omega);have ao:(ints b)[0]? =some (.int .i64 b[0]):=yY b 0 (by omega);go_enter func88,ntmps88;go_wp2_with fail;have j:=zob w (.cells (ints a).toArray 185) (.cells (ints b).toArray 185) (.cells (ints (pad [])).toArray 185) (.cells (ints (pad [])).toArray 185);have:bm<w.heap.size:=W.ne;refine (Qh base bm c e 1 a[0] b[0] _ (W.below j.2.2.2.2) q (by omega)).mono ?_;rintro p E ⟨rfl,ap,k⟩;have aq:=(MkFr.of_below (base:=base) (bm:=bm) j.2.2.2.2).trans k;have ar:=k.size;simp only [World.size_alloc] at ar;have F:=k.row j.1 (by omega);have G:=k.row j.2.1 (by omega);have Y:=k.row j.2.2.1 (by omega);have y:=k.row j.2.2.2.1 (by omega);clear j k;have z:=qH F (k:=0) (by omega);have A:=qH G (k:=0) (by omega);have au:=QQ (r:=[]) (k:=0) y rfl (by decide);have H:=frozen_of_row E (w.heap.size+1+1+1) 0 _ _ y;have av:∀l,(E.setCell ⟨w.heap.size+1+1+1,0,none⟩ l).cell? ⟨w.heap.size,0,none⟩=some (.int .i64 a[0]):=fun l=>(zF (by omega) l).trans z
 have aw:∀l,(E.setCell ⟨w.heap.size+1+1+1,0,none⟩ l).cell? ⟨w.heap.size+1,0,none⟩=some (.int .i64 b[0]):=fun l=>(zF (by omega) l).trans A
 have aa:=Z F;have ab:=Z G;have ac:=Z Y;have I:=Z y;clear F G Y y an ao;go_wp2_with fail;refine (Qh base bm c _ 2 a[0] b[0] _ (ap.setCell I _ _) q (by rw [Qi];omega)).mono ?_;rintro p J ⟨rfl,ax,s⟩;have ay:=s.row (ZB (r:=[]) I 0 rfl (by decide) _) (by omega);go_wp2_with fail;have az:J.heap[w.heap.size]? =some (.cells (ints a).toArray 185 (0,0)):=s.row ((qe (by omega) _).trans aa) (by omega);have aA:J.heap[w.heap.size+1]? =some (.cells (ints b).toArray 185 (0,0)):=s.row ((qe (by omega) _).trans ab) (by omega);have aB:J.heap[w.heap.size+1+1]? =some (.cells (ints (pad [])).toArray 185 (0,0)):=s.row ((qe (by omega) _).trans ac) (by omega);have aC:=(aq.setCell (b:=w.heap.size+1+1+1) (by omega) 0 (.int .i64 (gt c 1 a[0] b[0] e).1)).trans s;clear av aw aa ab ac I au H;have ad:qX c a b e 0=([(gt c 1 a[0] b[0] e).1],(gt c 2 a[0] b[0] (gt c 1 a[0] b[0] e).2).1,(gt c 2 a[0] b[0] (gt c 1 a[0] b[0] e).2).2):=by
  simp [qX,List.getD,C,D]
 have K:=Z ad;clear ad;go_loopw [8,9] (fun aD L wr=>∃f d:Nat,Hid (d=f+1)∧d≤64∧L= .int .i64 d∧aD= .int .i64 (qX c a b e f).2.1∧zE base bm wr c (qX c a b e f).2.2∧wr.heap[w.heap.size]? =some (.cells (ints a).toArray 185 (0,0))∧wr.heap[w.heap.size+1]? =some (.cells (ints b).toArray 185 (0,0))∧
   wr.heap[w.heap.size+1+1]? =some (.cells (ints (pad [])).toArray 185 (0,0))∧wr.heap[w.heap.size+1+1+1]? =some (.cells (ints (pad (qX c a b e f).1)).toArray 185 (0,0))∧MkFr base bm w wr) (fun _ L _=>64-(intOf L).toNat)
 case atStart=>
  exact ⟨0,1,rfl,by omega,rfl,by rw [K.out],by rw [K.out];exact ax,az,aA,aB,by rw [K.out];exact ay,aC⟩
 case round=>
  obtain ⟨f,d,h,_,rfl,rfl,ae,M,N,t,m,af⟩:=hrel;have B:=Z (Yp c a b e f);have:=lt_of_block m
  by_cases u:d<64
  ·have z:=qH M (k:=d) (by omega)
   have A:=qH N (k:=d) (by omega);have aE:=QQ (k:=d) m (B.1.trans h.symm) u;have aF:=frozen_of_row wr (w.heap.size+1+1+1) d _ _ m;have O:=Z M;have P:=Z N;have aG:=Z t;have Q:=Z m;have:(qX c a b e f).2.2.length≤81000:=by have:=B.2;have:=h.out;omega
   have aH:zE base bm wr.drew c (qX c a b e f).2.2:=ae;clear M N t m;go_wp2_with fail;go_region_held3 (fun v=>v.cell? ⟨w.heap.size,d,none⟩=some (.int .i64 a[d])∧v.cell? ⟨w.heap.size+1,d,none⟩=some (.int .i64 b[d])) (first | exact ⟨z,A⟩ | exact ⟨R,S⟩ | exact ⟨ag,ah⟩ | exact ⟨(zF (by omega) _).trans R,(zF (by omega) _).trans S⟩)
    (first | (have:=ai;go_at_call 89;refine (Qh base bm c _ _ _ _ _ ai q (by rw [Qi];omega)).mono ?_;rintro p aj ⟨rfl,aI,i⟩;have aJ:=QQ (i.row (g.row Q (by omega)) (by omega)) (B.1.trans h.symm) u;have R:=qH (i.row (g.row O (by omega)) (by omega)) (k:=d) (by omega);have S:=qH (i.row (g.row P (by omega)) (by omega)) (k:=d) (by omega);have H:=frozen_of_row aj (w.heap.size+1+1+1) d _ _ (i.row (g.row Q (by omega)) (by omega))) | (go_at_call 89;refine (Qh base bm c _ _ _ _ _ aH q (by omega)).mono ?_;rintro p _ ⟨rfl,ai,g⟩;have ag:=qH (g.row O (by omega)) (k:=d) (by omega);have ah:=qH (g.row P (by omega)) (k:=d) (by omega)))
   have T:=i.row (g.row Q (by omega)) (by omega);have k1:=(qe (b:=w.heap.size+1+1+1) (j:=d) (by omega) (.int .i64 (gt c 1 (gt c 1 a[d] b[d] (qX c a b e f).2.2).1 (qX c a b e f).2.1 (gt c 1 a[d] b[d] (qX c a b e f).2.2).2).1)).trans (i.row (g.row O (by omega)) (by omega));have k2:=(qe (b:=w.heap.size+1+1+1) (j:=d) (by omega) (.int .i64 (gt c 1 (gt c 1 a[d] b[d] (qX c a b e f).2.2).1 (qX c a b e f).2.1 (gt c 1 a[d] b[d] (qX c a b e f).2.2).2).1)).trans (i.row (g.row P (by omega)) (by omega));have k3:=(qe (b:=w.heap.size+1+1+1) (j:=d) (by omega) (.int .i64 (gt c 1 (gt c 1 a[d] b[d] (qX c a b e f).2.2).1 (qX c a b e f).2.1 (gt c 1 a[d] b[d] (qX c a b e f).2.2).2).1)).trans (i.row (g.row aG (by omega)) (by omega));have k4:=ZB T d (B.1.trans h.symm) u (gt c 1 (gt c 1 a[d] b[d] (qX c a b e f).2.2).1 (qX c a b e f).2.1 (gt c 1 a[d] b[d] (qX c a b e f).2.2).2).1;have k5:=aI.setCell T d (.int .i64 (gt c 1 (gt c 1 a[d] b[d] (qX c a b e f).2.2).1 (qX c a b e f).2.1 (gt c 1 a[d] b[d] (qX c a b e f).2.2).2).1);have k6:=((af.drew.trans g).trans i).setCell (b:=w.heap.size+1+1+1) (by omega) d (.int .i64 (gt c 1 (gt c 1 a[d] b[d] (qX c a b e f).2.2).1 (qX c a b e f).2.1 (gt c 1 a[d] b[d] (qX c a b e f).2.2).2).1);clear T z A aE aF aJ H ag ah R S;generalize aj.setCell ⟨w.heap.size+1+1+1,d,none⟩ (.int .i64 (gt c 1 (gt c 1 a[d] b[d] (qX c a b e f).2.2).1 (qX c a b e f).2.1 (gt c 1 a[d] b[d] (qX c a b e f).2.2).2).1)=aK at k1 k2 k3 k4 k5 k6 ⊢;have U:=Z k1;have V:=Z k2;have ak:=Z k3;have al:=Z k4;have aL:=qH k1 (k:=d) (by omega);have aM:=qH k2 (k:=d) (by omega);have aN:zE base bm aK.drew c _:=k5;have:=lt_of_block k4;clear k1 k2 k3 k4
   by_cases am:d<63
   ·go_wp2_with fail
    go_region_held3 (fun v=>v.cell? ⟨w.heap.size,d,none⟩=some (.int .i64 a[d])∧v.cell? ⟨w.heap.size+1,d,none⟩=some (.int .i64 b[d])) (first | exact ⟨aL,aM⟩ | exact ⟨aO,aP⟩)
     (first | (go_at_call 139;refine (zcX base bm c _ _ _ _ _ aN q (by simp only [Qi];omega)).mono ?_;rintro p _ ⟨rfl,aQ,n⟩;have aO:=qH (n.row U (by omega)) (k:=d) (by omega);have aP:=qH (n.row V (by omega)) (k:=d) (by omega)))
    go_wp2_with fail;go_roundw
    case rel=>
     have o:qX c a b e (f+1)=((qX c a b e f).1++[(gt c 1 (gt c 1 a[d] b[d] (qX c a b e f).2.2).1 (qX c a b e f).2.1 (gt c 1 a[d] b[d] (qX c a b e f).2.2).2).1],
       YR c a[d] b[d] (qX c a b e f).2.1 (gt c 1 (gt c 1 a[d] b[d] (qX c a b e f).2.2).1 (qX c a b e f).2.1 (gt c 1 a[d] b[d] (qX c a b e f).2.2).2).2):=by
      obtain rfl:=h.out;simp [qX,List.getD,C,D,u,am]
     refine ⟨f+1,d+1,by unfold Hid;rw [h.out],by omega,by go_num,by rw [o],by rw [o];exact aQ,n.row U (by omega),n.row V (by omega),n.row ak (by omega),by rw [o];exact n.row al (by omega),k6.drew.trans n⟩
    case measure=>simp [intOf];omega
   ·go_wp2_with fail
    go_roundw
    case rel=>
     have o:qX c a b e (f+1)=((qX c a b e f).1++[(gt c 1 (gt c 1 a[d] b[d] (qX c a b e f).2.2).1 (qX c a b e f).2.1 (gt c 1 a[d] b[d] (qX c a b e f).2.2).2).1],
       (qX c a b e f).2.1,(gt c 1 (gt c 1 a[d] b[d] (qX c a b e f).2.2).1 (qX c a b e f).2.1 (gt c 1 a[d] b[d] (qX c a b e f).2.2).2).2):=by
      obtain rfl:=h.out;simp [qX,List.getD,C,D,u,am]
     refine ⟨f+1,d+1,by unfold Hid;rw [h.out],by omega,by go_num,by rw [o],by rw [o];exact k5,U,V,ak,by rw [o];exact al,k6⟩
    case measure=>simp [intOf];omega
  ·obtain rfl:d=64:=by omega
   obtain rfl:f=63:=by have:=h.out;omega
   have x:=(Yp c a b e 63).1;rw [zai _ x] at m;go_wp2_with (first | (refine wpList_load_row rfl 185 _ rfl (w.heap.size+1+1+1) rfl 185 _ _ _ m underlying185 rfl (qQ _ x) ?_) | (refine wpList_store_row rfl 185 _ _ rfl (w.heap.size+1+1) _ rfl rfl 185 _ t (qQ _ x) (by simp [qP,x,zcH]) (Z1 _) ?_));exact bodyPost_ret (results_cell_row rfl _ _ (w.heap.size+1+1) 185 _ _ _ rfl (setRow_heap _ _ _ _ _ _ t) underlying185 rfl (qQ _ x)) rfl ⟨rfl,ae.setRow t _,af.setRow (by omega) _⟩
theorem zbD :∀(e a b c:List Value) (f:World) (d:Nat),b.length=e.length→f.heap[d]? =some (.cells (a++b++c).toArray t fr)→
  (f.setCells d a.length e).heap[d]? =some (.cells (a++e++c).toArray t fr)
 |[],a,b,c,f,d,h,i=>by
  obtain rfl:b=[]:=by simpa using h
  simpa [World.setCells] using i
 |g::e,a, [],c,f,d,h,i=>by simp at h
 |g::e,a,l::b,c,f,d,h,i=>by
  have k:=heap_setCell (j:=a.length) i g;have m:(a++l::b++c).toArray.setIfInBounds a.length g=((a++[g])++b++c).toArray:=by
   rw [List.setIfInBounds_toArray];congr 1;rw [List.append_assoc,List.set_append_right _ _ (Nat.le_refl _)];simp
  rw [m] at k;have n:=zbD e (a++[g]) b c (f.setCell ⟨d,a.length,none⟩ g) d (by simpa using h) k;rw [World.setCells];simpa using n
theorem Q6:∀(c:List Value) (d:World) (b e a:Nat),a≠b→(d.setCells b e c).heap[a]? =d.heap[a]?
 |[],_,_,_,_,_=>rfl
 |g::c,d,b,e,a,f=>by rw [World.setCells,Q6 c _ b (e+1) a f,qe f]
theorem Z9:∀(a:List Value) (b:World) (c d:Nat),(b.setCells c d a).heap.size=b.heap.size
 |[],_,_,_=>rfl
 |e::a,b,c,d=>by rw [World.setCells,Z9 a];simp
theorem zaQ :∀(c:List Value) (a d:World) (b e:Nat),B≤b→Below B a d→Below B a (d.setCells b e c)
 |[],_,_,_,_,_,f=>f
 |h::c,a,d,b,e,g,f=>by rw [World.setCells];exact zaQ c a _ b (e+1) g (f.setCell g h)
theorem MkFr.keep {base:Nat}(c:MkFr base bm w h)(a:w.heap[b]? =some (.cells D t fr))(d:t≠194)(e:b≠bm):
  h.heap[b]? =some (.cells D t fr):=by
 rw [c.block b (lt_of_block a) e (.inr (fun _ _=>by rw [a];simp;intro _ f;exact absurd f d)),a]
theorem MkFr.but {base:Nat}(a:MkFr base bm w h)(n:w.heap.size≤b)(e:∀c,c≠b→W.heap[c]? =h.heap[c]?)(f:W.heap.size=h.heap.size)(g:W.os=h.os)(i:W.tape=h.tape)(j:W.output=h.output):MkFr base bm w W:=
 ⟨g.trans a.os,i.trans a.tape,j.trans a.output,by rw [f];exact a.size,fun d k l m=>(e d (by omega)).trans (a.block d k l m)⟩
theorem zE.but {base:Nat}(i:zE base bm w N A)(g:w.heap[b]? =some (.cells D t fr))(j:t≠183)(k:t≠194)
  (h:∀d,d≠b→W.heap[d]? =w.heap[d]?) (x:w.heap.size≤W.heap.size):zE base bm W N A:=by
 obtain ⟨l,_,m,a,e⟩:=i;have n:bm≠b:=by intro f;subst f;rw [g] at a;simp at a;exact j a.2.1
 refine ⟨l,by omega,m,(h _ n).trans a,?_⟩;rcases e.2 with o | ⟨p,q,r,s,u,c,v⟩
 ·exact ⟨e.1,.inl o⟩
 ·refine ⟨e.1,.inr ⟨p,q,r,s,u,(h _ ?_).trans c,v⟩⟩
  intro f;subst f;rw [g] at c;simp at c;exact k c.2.1
def Za (a:Nat)(c:Bool)(i:Int)(b:List Gate):List Int×List Gate:=
 if c then QD a (qy (2 * i) 64) (qy (2 * i+1) 64) b 64 else ((qX a (qy (2 * i) 64) (qy (2 * i+1) 64) b 63).1,(qX a (qy (2 * i) 64) (qy (2 * i+1) 64) b 63).2.2)
theorem zgG (b:Nat)(c:Bool)(i:Int)(a:List Gate):(Za b c i a).1.length=64∧(Za b c i a).2.length≤a.length+400:=by
 unfold Za
 split
 ·have:=YB b (qy (2 * i) 64) (qy (2 * i+1) 64) a 64;omega
 ·have:=Yp b (qy (2 * i) 64) (qy (2 * i+1) 64) a 63;simp only;omega
def Zb (b f:Nat):Nat→List Int×List Gate
 |0=>([], [])
 |a+1=>let c:=Za b (f / 2^a%2==1) a (Zb b f a).2;((Zb b f a).1++c.1,c.2)
theorem Zc (a f k:Nat):(Zb a f k).1.length=64 * k∧(Zb a f k).2.length≤400 * k:=by
 induction k with
 |zero=>simp [Zb]
 |succ k ih=>
  have:=zgG a (f / 2^k%2==1) k (Zb a f k).2;simp only [Zb,List.length_append];omega
def ZT (r:List Int):List Int:=r++List.replicate (128-r.length) 0
theorem za0 (a f k:Nat)(t:List Int×List Gate)(b:Zb a f k=t)(c:(f / 2^k%2==1)=false)(s:List Int×Int×List Gate)(d:qX a (qy (2 * (k:Int)) 64) (qy (2 * (k:Int)+1) 64) t.2 63=s):
  Zb a f (k+1)=(t.1++s.1,s.2.2):=by
 simp only [Zb,b,c,Za,Bool.false_eq_true,if_false,d]
theorem za1 (a f k:Nat)(t:List Int×List Gate)(b:Zb a f k=t)(c:(f / 2^k%2==1)=true)(s:List Int×List Gate)(d:QD a (qy (2 * (k:Int)) 64) (qy (2 * (k:Int)+1) 64) t.2 64=s):
  Zb a f (k+1)=(t.1++s.1,s.2):=by
 simp only [Zb,b,c,Za,if_true,d]
theorem zfW (a:w.heap[b]? =some (.cells (ints (ZT r)).toArray t fr))(c:k<r.length):
  w.cell? ⟨b,k,none⟩=some (.int .i64 r[k]):=by
 rw [cell_of_row _ _ _ _ _ _ a];simp [ints,ZT,List.getElem?_append,c]
theorem zqq (W:World)(a b c:Array Value):((((W.alloc (.cells a 185)).alloc (.cells a 185)).setRow W.heap.size b).setRow (W.heap.size+1) c).heap[W.heap.size]? =some (.cells b 185 (0,0))∧
  ((((W.alloc (.cells a 185)).alloc (.cells a 185)).setRow W.heap.size b).setRow (W.heap.size+1) c).heap[W.heap.size+1]? =some (.cells c 185 (0,0))∧
  Below W.heap.size W ((((W.alloc (.cells a 185)).alloc (.cells a 185)).setRow W.heap.size b).setRow (W.heap.size+1) c):=by
 refine ⟨?_,?_,below_setRow (below_setRow (((Below.refl _ _).alloc (Nat.le_refl _) _).alloc (by simp) _) (Nat.le_refl _) _) (by omega) _⟩
 ·rw [setRow_other _ _ _ _ (by omega)];exact setRow_heap _ _ _ _ _ _ (heap_alloc2_old _ _ _)
 ·exact setRow_heap _ _ _ _ _ _ ((setRow_other _ _ _ _ (by omega)).trans (heap_alloc2_new _ _ _))
theorem zbg {c d:Oper}(h i j k:Operand)(p:c.guard=none)(q:d.guard=none)(r:c.op= .store 185 h i)(s:d.op= .store 185 j k)
  (t:c.dst=none) (W:World) (b:Array Value) (e f:List Int) (m:b.size=64) (n:e.length=64) (o:f.length=64)
  (u:a.eval h= .pointer (some ⟨W.heap.size,0,none⟩)) (v:a.eval i= .agg (ints e).toArray) (w:a.eval j= .pointer (some ⟨W.heap.size+1,0,none⟩)) (x:a.eval k= .agg (ints f).toArray)
  (y:∀g:World,g.heap[W.heap.size]? =some (.cells (ints e).toArray 185 (0,0))→g.heap[W.heap.size+1]? =some (.cells (ints f).toArray 185 (0,0))→Below W.heap.size W g→wpList prog ops Q rest (a.put d.dst undef) g):
  wpList prog ops Q (c::d::rest) a ((W.alloc (.cells b 185)).alloc (.cells b 185)):=by
 have l:=zqq W b (ints e).toArray (ints f).toArray;refine wpList_store_row p 185 h i r W.heap.size _ u v 185 b (heap_alloc2_old _ _ _) (qQ _ n) (by simp [m,qP,n]) (Z1 _) ?_;rw [t];refine wpList_store_row q 185 j k s (W.heap.size+1) _ w x 185 b ((setRow_other _ _ _ _ (by omega)).trans (heap_alloc2_new _ _ _)) (qQ _ o) (by simp [m,qP,o]) (Z1 _) ?_;exact y _ l.1 l.2.1 l.2.2
theorem QG {o:Oper}(x y:Operand)(t:o.guard=none)(u:o.op= .store 185 x y)(b k:Nat)(r q:List Int)(i:r.length=64 * k)(I:k<2)(f:q.length=64)
  (g:w.heap[b]? =some (.cells (ints (ZT r)).toArray 186 (0,0))) (v:a.eval x= .pointer (some ⟨b,64 * k,none⟩)) (z:a.eval y= .agg (ints q).toArray)
  (A:∀d:World,d.heap[b]? =some (.cells (ints (ZT (r++q))).toArray 186 (0,0))→(∀c,c≠b→d.heap[c]? =w.heap[c]?)→d.heap.size=w.heap.size→(∀h j,h≤b→Below h j w→Below h j d)→
   (∀l m n p,zE l m w n p→zE l m d n p)→wpList prog ops Q rest (a.put o.dst undef) d):wpList prog ops Q (o::rest) a w:=by
 have B:(ints r).length=64 * k:=by rw [qP];exact i
 have C:ints (ZT r)=ints r++ints (List.replicate 64 0)++ints (List.replicate (64-64 * k) 0):=by
  rw [←yd,←yd,List.append_assoc,List.replicate_append_replicate,ZT,i];congr 3;omega
 have D:ints (ZT (r++q))=ints r++ints q++ints (List.replicate (64-64 * k) 0):=by
  rw [←yd,←yd,ZT,List.length_append,i,f];congr 3;omega
 have E:w.there b (64 * k) (ints q).toArray.size:=by
  intro c e;have J:c<64:=by simpa [qP,f] using e
  refine ⟨?_,frozen_of_row _ _ _ _ _ g⟩;rw [cell_of_row _ _ _ _ _ _ g];have:64 * k+c<(ints (ZT r)).length:=by rw [qP,ZT,List.length_append,List.length_replicate];omega
  simp [this]
 refine wpList_store_mid t 185 x y u b (64 * k) _ v z E (qQ _ f) (Z1 _) ?_;have s:=zbD (ints q) (ints r) (ints (List.replicate 64 0)) (ints (List.replicate (64-64 * k) 0)) w b (by simp [qP,f]) (by rw [←C];exact g);rw [B,←D] at s;exact A _ s (fun c e=>Q6 _ _ _ _ _ e) (Z9 _ _ _ _) (fun h j F G=>zaQ _ _ _ _ _ F G)
  (fun l m n p H=>H.but g (by decide) (by decide) (fun c e=>Q6 _ _ _ _ _ e) (Nat.le_of_eq (Z9 _ _ _ _).symm))
def Qj (c:Nat)(a b:List Int)(f:List Gate):Nat→Int×List Gate
 |0=>let d:=gt c 3 (a.getD 0 0) 0 f;gt c 2 d.1 (b.getD 0 0) d.2
 |e+1=>let g:=Qj c a b f e;let d:=gt c 3 (a.getD (e+1) 0) 0 g.2;YR c d.1 (b.getD (e+1) 0) g.1 d.2
def ZY (c:Nat)(a b:List Int)(f:List Gate):Int×List Gate:=
 let d:=Qj c a b f 62;let e:=gt c 3 (b.getD 63 0) 0 d.2;YR c (a.getD 63 0) e.1 d.1 e.2
theorem zey (d:Nat)(a b:List Int)(c:List Gate)(n:Nat):(Qj d a b c n).2.length=c.length+2+5 * n:=by
 induction n with
 |zero=>simp [Qj,gt]
 |succ n ih=>simp only [Qj,Qi,zb1,ih];omega
theorem zda (d:Nat)(a b:List Int)(c:List Gate):(ZY d a b c).2.length=c.length+317:=by
 simp only [ZY,Qi,zb1,zey]
theorem zm2 (c:Nat)(a b:List Int)(d:List Gate)(e:a.length=64)(f:b.length=64)(s:Int×List Gate)(g:Qj c a b d 62=s):
  ZY c a b d=YR c (a[63]'(by omega)) (gt c 3 (b[63]'(by omega)) 0 s.2).1 s.1 (gt c 3 (b[63]'(by omega)) 0 s.2).2:=by
 unfold ZY;rw [g];simp [List.getD,e,f]
theorem two (w:World)(a b:Obj):((w.alloc a).alloc b).heap[w.heap.size]? =some a∧((w.alloc a).alloc b).heap[w.heap.size+1]? =some b∧Below w.heap.size w ((w.alloc a).alloc b):=
 ⟨heap_alloc2_old _ _ _,heap_alloc2_new _ _ _,((Below.refl _ _).alloc (Nat.le_refl _) _).alloc (by simp) _⟩
theorem zhO (base bm c:Nat)(f:List Gate)(a b:List Int)(w:World)(G:a.length=64)(H:b.length=64)(I:zE base bm w c f)(l:c≤1000)(ac:f.length≤80000):
  Calls prog 90 #[.pointer (some ⟨bm,0,none⟩),.agg (ints a).toArray,.agg (ints b).toArray] w fun j J=>
   j= .returned (.int .i64 (ZY c a b f).1)∧zE base bm J c (ZY c a b f).2∧MkFr base bm w J:=by
 have m:=two w (.cells (ints a).toArray 185) (.cells (ints b).toArray 185);have T:=I.below m.2.2;have U:MkFr base bm w _:=MkFr.of_below m.2.2;have:bm<w.heap.size:=I.ne;have n:=Z m;have o:=qH m.1 (k:=0) (by omega);have p:=qH m.2.1 (k:=0) (by omega);have V:zE base bm ((w.alloc (.cells (ints a).toArray 185)).alloc (.cells (ints b).toArray 185)).drew c f:=T;clear m;go_enter func90,ntmps90;go_wp2_with fail;go_region_held3 (fun i=>i.cell? ⟨w.heap.size,0,none⟩=some (.int .i64 a[0])∧i.cell? ⟨w.heap.size+1,0,none⟩=some (.int .i64 b[0])) (first | exact ⟨o,p⟩ | exact ⟨q,r⟩ | exact ⟨s,t⟩)
  (first | (have:=k;go_at_call 89;refine (Qh base bm c _ _ _ _ _ k l (by rw [Qi];omega)).mono ?_;rintro j K ⟨rfl,u,g⟩;have q:=qH (g.row (d.row n.1 (by omega)) (by omega)) (k:=0) (by omega);have r:=qH (g.row (d.row n.2.1 (by omega)) (by omega)) (k:=0) (by omega)) | (go_at_call 89;refine (Qh base bm c _ _ _ _ _ V l (by omega)).mono ?_;rintro j L ⟨rfl,k,d⟩;have s:=qH (d.row n.1 (by omega)) (k:=0) (by omega);have t:=qH (d.row n.2.1 (by omega)) (k:=0) (by omega)))
 have M:=g.row (d.row n.1 (by omega)) (by omega);have N:=g.row (d.row n.2.1 (by omega)) (by omega);have O:=(U.drew.trans d).trans g;have:=O.size;have P:Qj c a b f 0=gt c 2 (gt c 3 a[0] 0 f).1 b[0] (gt c 3 a[0] 0 f).2:=by simp [Qj,List.getD,G,H]
 have Q:=Z P;clear P o p s t q r;have W:=Z M;have X:=Z N;clear M N k d g;go_wp2_with fail;go_loopw [7,8] (fun Y C wr=>∃h e:Nat,Hid (e=h+1)∧e≤63∧C= .int .i64 e∧Y= .int .i64 (Qj c a b f h).1∧zE base bm wr c (Qj c a b f h).2∧wr.heap[w.heap.size]? =some (.cells (ints a).toArray 185 (0,0))∧wr.heap[w.heap.size+1]? =some (.cells (ints b).toArray 185 (0,0))∧MkFr base bm w wr) (fun _ C _=>63-(intOf C).toNat)
 case atStart=>exact ⟨0,1,rfl,by omega,rfl,by rw [Q.out],by rw [Q.out];exact u,W,X,O⟩
 case round=>
  obtain ⟨h,e,B,_,rfl,rfl,R,v,x,S⟩:=hrel;have aa:(Qj c a b f h).2.length≤81000:=by have:=zey c a b f h;have:=B.out;omega
  have y:=Z v;have z:=Z x;have D:zE base bm wr.drew c (Qj c a b f h).2:=R
  by_cases ad:e<63
  ·have:(e:Int)<64:=by omega
   have:(0:Int)≤e:=by omega
   have o:=qH v (k:=e) (by omega);have p:=qH x (k:=e) (by omega);clear v x;go_wp2_with fail;go_region_held3 (fun i=>i.cell? ⟨w.heap.size,e,none⟩=some (.int .i64 a[e])∧i.cell? ⟨w.heap.size+1,e,none⟩=some (.int .i64 b[e])) (first | exact ⟨o,p⟩ | exact ⟨q,r⟩ | exact ⟨s,t⟩)
    (first | (go_at_call 139;refine (zcX base bm c _ _ _ _ _ k l (by rw [Qi];omega)).mono ?_;rintro j K ⟨rfl,u,g⟩;have q:=qH (g.row (d.row y (by omega)) (by omega)) (k:=e) (by omega);have r:=qH (g.row (d.row z (by omega)) (by omega)) (k:=e) (by omega)) | (go_at_call 89;refine (Qh base bm c _ _ _ _ _ D l (by omega)).mono ?_;rintro j L ⟨rfl,k,d⟩;have s:=qH (d.row y (by omega)) (k:=e) (by omega);have t:=qH (d.row z (by omega)) (k:=e) (by omega)))
   go_wp2_with fail;go_roundw
   case rel=>
    have A:Qj c a b f (h+1)=YR c (gt c 3 a[e] 0 (Qj c a b f h).2).1 b[e] (Qj c a b f h).1 (gt c 3 a[e] 0 (Qj c a b f h).2).2:=by
     obtain rfl:=B.out;simp [Qj,List.getD,show h+1<a.length by omega,show h+1<b.length by omega]
    refine ⟨h+1,e+1,by unfold Hid;rw [B.out],by omega,by go_num,by rw [A],by rw [A];exact u,g.row (d.row y (by omega)) (by omega),g.row (d.row z (by omega)) (by omega),(S.drew.trans d).trans g⟩
   case measure=>simp [intOf];omega
  ·obtain rfl:e=63:=by omega
   obtain rfl:h=62:=by have:=B.out;omega
   obtain ⟨E,F⟩:∃E,Qj c a b f 62=E:=⟨_,rfl⟩;have A:=zm2 c a b f G H E F;rw [F] at aa D ⊢;have ab:=Z A;have o:=qH v (k:=63) (by omega);have p:=qH x (k:=63) (by omega);clear v x R A F;go_wp2_with fail;go_region_held3 (fun i=>i.cell? ⟨w.heap.size,63,none⟩=some (.int .i64 a[63])∧i.cell? ⟨w.heap.size+1,63,none⟩=some (.int .i64 b[63])) (first | exact ⟨o,p⟩ | exact ⟨q,r⟩ | exact ⟨s,t⟩)
    (first | (go_at_call 139;refine (zcX base bm c _ _ _ _ _ k l (by rw [Qi];omega)).mono ?_;rintro j K ⟨rfl,u,g⟩;have q:=qH (g.row (d.row y (by omega)) (by omega)) (k:=63) (by omega);have r:=qH (g.row (d.row z (by omega)) (by omega)) (k:=63) (by omega)) | (go_at_call 89;refine (Qh base bm c _ _ _ _ _ D l (by omega)).mono ?_;rintro j L ⟨rfl,k,d⟩;have s:=qH (d.row y (by omega)) (k:=63) (by omega);have t:=qH (d.row z (by omega)) (k:=63) (by omega)))
   go_wp2_with fail;go_ret;rw [ab.out];exact ⟨rfl,u,(S.drew.trans d).trans g⟩
def zic (c:Nat)(s a b:Int)(f:List Gate):Int×List Gate:=
 let d:=gt c 1 a b f;let e:=gt c 2 s d.1 d.2;gt c 1 b e.1 e.2
def Yc (d:Nat)(s:Int)(a b:List Int)(e:List Gate):Nat→List Int×List Gate
 |0=>([],e)
 |c+1=>let f:=Yc d s a b e c;let g:=zic d s (a.getD c 0) (b.getD c 0) f.2;(f.1++[g.1],g.2)
theorem zb7 (d:Nat)(s:Int)(a b:List Int)(c:List Gate)(k:Nat):(Yc d s a b c k).1.length=k∧(Yc d s a b c k).2.length=c.length+3 * k:=by
 induction k with
 |zero=>simp [Yc]
 |succ k ih=>simp [Yc,zic,gt,ih];omega
theorem zie (c:Nat)(s:Int)(a b:List Int)(d:List Gate)(k:Nat)(e:k<a.length)(f:k<b.length)(t:List Int×List Gate)(g:Yc c s a b d k=t):
  Yc c s a b d (k+1)=(t.1++[(zic c s a[k] b[k] t.2).1],(zic c s a[k] b[k] t.2).2):=by
 simp [Yc,g,List.getD,e,f]
theorem znp (base bm d:Nat)(i:List Gate)(s:Int)(a b:List Int)(w:World)(ab:a.length=64)(ac:b.length=64)(A:zE base bm w d i)(r:d≤1000)(ad:i.length≤80000):
  Calls prog 91 #[.pointer (some ⟨bm,0,none⟩),.int .i64 s,.agg (ints a).toArray,.agg (ints b).toArray] w fun n B=>
   n= .returned (.agg (ints (Yc d s a b i 64).1).toArray)∧zE base bm B d (Yc d s a b i 64).2∧MkFr base bm w B:=by
 go_enter func91,ntmps91;go_wp2_with fail;go_loopw [11] (fun t wr=>∃c:Nat,∃g:List Int×List Gate,c≤64∧t= .int .i64 c∧Hid (Yc d s a b i c=g)∧zE base bm wr d g.2∧wr.heap[w.heap.size]? =some (.cells (ints a).toArray 185 (0,0))∧wr.heap[w.heap.size+1]? =some (.cells (ints b).toArray 185 (0,0))∧
   wr.heap[w.heap.size+1+1]? =some (.cells (ints (pad [])).toArray 185 (0,0))∧wr.heap[w.heap.size+1+1+1]? =some (.cells (ints (pad g.1)).toArray 185 (0,0))∧MkFr base bm w wr) (fun t _=>64-(intOf t).toNat)
 case atStart=>
  have k:=zob w (.cells (ints a).toArray 185) (.cells (ints b).toArray 185) (.cells (ints (pad [])).toArray 185) (.cells (ints (pad [])).toArray 185);exact ⟨0,_,by omega,rfl,rfl,A.below k.2.2.2.2,k.1,k.2.1,k.2.2.1,k.2.2.2.1,MkFr.of_below k.2.2.2.2⟩
 case round=>
  obtain ⟨c,g,_,rfl,u,C,v,x,l,j,D⟩:=hrel;have E:g.1.length=c∧g.2.length=i.length+3 * c:=by have:=zb7 d s a b i c;rw [u.out] at this;exact this
  have o:=Z E;have ae:g.2.length≤81000:=by omega
  clear E;have af:=lt_of_block j;have ag:bm<w.heap.size:=A.ne
  by_cases y:c<64
  ·have L:=qH v (k:=c) (by omega)
   have M:=qH x (k:=c) (by omega);have ah:=QQ j o.1 y;have ai:=frozen_of_row wr (w.heap.size+1+1+1) c _ _ j;have p:=Z v;have q:=Z x;have N:=Z l;have z:=Z j;have O:zE base bm wr.drew d g.2:=C;clear v x l j;go_wp2_with fail;go_region_held3 (fun F=>F.cell? ⟨w.heap.size,c,none⟩=some (.int .i64 a[c])∧F.cell? ⟨w.heap.size+1,c,none⟩=some (.int .i64 b[c])) (first | exact ⟨L,M⟩ | exact ⟨G,H⟩ | exact ⟨P,Q⟩ | exact ⟨R,S⟩ | exact ⟨(zF (by omega) _).trans G,(zF (by omega) _).trans H⟩)
    (first | (have T:=I;go_at_call 89;refine (Qh base bm d _ _ _ _ _ I r (by simp only [Qi];omega)).mono ?_;rintro n U ⟨rfl,V,h⟩;have G:=qH (h.row (f.row (e.row p (by omega)) (by omega)) (by omega)) (k:=c) (by omega);have H:=qH (h.row (f.row (e.row q (by omega)) (by omega)) (by omega)) (k:=c) (by omega);have aj:=QQ (h.row (f.row (e.row z (by omega)) (by omega)) (by omega)) o.1 y;have ak:=frozen_of_row U (w.heap.size+1+1+1) c _ _ (h.row (f.row (e.row z (by omega)) (by omega)) (by omega))) | (have T:=J;go_at_call 89;refine (Qh base bm d _ _ _ _ _ J r (by simp only [Qi];omega)).mono ?_;rintro n _ ⟨rfl,I,f⟩;have P:=qH (f.row (e.row p (by omega)) (by omega)) (k:=c) (by omega);have Q:=qH (f.row (e.row q (by omega)) (by omega)) (k:=c) (by omega)) | (go_at_call 89;refine (Qh base bm d _ _ _ _ _ O r (by omega)).mono ?_;rintro n _ ⟨rfl,J,e⟩;have R:=qH (e.row p (by omega)) (k:=c) (by omega);have S:=qH (e.row q (by omega)) (k:=c) (by omega)))
   go_wp2_with fail;go_roundw
   case rel=>
    have K:=h.row (f.row (e.row z (by omega)) (by omega)) (by omega);have W:=h.row (f.row (e.row p (by omega)) (by omega)) (by omega);have X:=h.row (f.row (e.row q (by omega)) (by omega)) (by omega);have Y:=h.row (f.row (e.row N (by omega)) (by omega)) (by omega);have aa:=zie d s a b i c (by omega) (by omega) g u;refine ⟨c+1,_,by omega,by go_num,aa,V.setCell K _ _,?_,?_,?_,ZB K c o.1 y _,(((D.drew.trans e).trans f).trans h).setCell (by omega) _ _⟩
    ·rw [qe (by omega)];exact W
    ·rw [qe (by omega)];exact X
    ·rw [qe (by omega)];exact Y
   case measure=>simp [intOf];omega
  ·obtain rfl:c=64:=by omega
   have m:=o.1;rw [zai _ m] at j;go_wp2_with (first | (refine wpList_load_row rfl 185 _ rfl (w.heap.size+1+1+1) rfl 185 _ _ _ j underlying185 rfl (qQ _ m) ?_) | (refine wpList_store_row rfl 185 _ _ rfl (w.heap.size+1+1) _ rfl rfl 185 _ l (qQ _ m) (by simp [qP,m,zcH]) (Z1 _) ?_));refine bodyPost_ret (results_cell_row rfl _ _ (w.heap.size+1+1) 185 _ _ _ rfl (setRow_heap _ _ _ _ _ _ l) underlying185 rfl (qQ _ m)) rfl ?_;rw [u.out];exact ⟨rfl,C.setRow l _,D.setRow (by omega) _⟩
theorem zde:(ints (ZT [])).toArray=Tryz.zeroCells186:=by kernel_rfl
theorem znJ (w:World)(a b c:Obj):(((w.alloc a).alloc b).alloc c).heap[w.heap.size]? =some a∧(((w.alloc a).alloc b).alloc c).heap[w.heap.size+1]? =some b∧
  (((w.alloc a).alloc b).alloc c).heap[w.heap.size+1+1]? =some c∧Below w.heap.size w (((w.alloc a).alloc b).alloc c):=by
 have d:=zob w a b c (.cells #[] 0);have:(((w.alloc a).alloc b).alloc c).heap.size=w.heap.size+1+1+1:=by simp
 refine ⟨?_,?_,?_,(((Below.refl _ _).alloc (Nat.le_refl _) _).alloc (by simp) _).alloc (by simp;omega) _⟩
 ·exact (heap_alloc_old (((w.alloc a).alloc b).alloc c) (.cells #[] 0) (by omega)).symm.trans d.1
 ·exact (heap_alloc_old (((w.alloc a).alloc b).alloc c) (.cells #[] 0) (by omega)).symm.trans d.2.1
 ·exact (heap_alloc_old (((w.alloc a).alloc b).alloc c) (.cells #[] 0) (by omega)).symm.trans d.2.2.1
theorem zeS {base:Nat}(a:w.ownsRow base e k v n E):v.oneCell'=true:=by
 rcases a.2 with ⟨rfl,_⟩ | ⟨_,_,_,rfl,_⟩<;>rfl
theorem zdd {base:Nat}(c:w.ownsRow base e k v n E)(g:∀a b,w.heap[a]? =some (.cells b e (0,0))→base≤a→W.heap[a]? =w.heap[a]?):W.ownsRow base e k v n E:=by
 rcases c.2 with h | ⟨a,i,b,j,d,f,l⟩
 ·exact ⟨c.1,.inl h⟩
 ·exact ⟨c.1,.inr ⟨a,i,b,j,d,(g a b f d).trans f,l⟩⟩
theorem zeR {br:Nat}(a:w.heap[br]? =some (.cells (ints r).toArray t fr))(b:r.length=64):Arr w.heap.size w 1 (.slice (some ⟨br,0,none⟩) 64 64) r.length (ints r):=by
 rw [b];refine ⟨_,64,rfl,Nat.le_refl _,by unfold maxLen;omega,(fun a=>by cases a),by simp [qP,b],.inr ⟨br,0,rfl,lt_of_block a,fun _ _=> ?_⟩⟩;rw [cell_of_row _ _ _ _ _ _ a];simp
theorem YU (c:w.heap[b]? =some (.cells (ints (ZT r)).toArray t fr))(e:r.length=128):
  w.rangeAt b 0 (ints (r.take 64))∧w.rangeAt b 64 (ints (r.drop 64)):=by
 have f:ZT r=r:=by simp [ZT,e]
 rw [f] at c
 constructor
 ·intro d g a
  rw [cell_of_row _ _ _ _ _ _ c];simp only [ints,List.map_take] at a;have:d<64:=by
   have:=(List.getElem?_eq_some_iff.1 a).1;simp at this;omega
  rw [List.getElem?_take,if_pos this] at a;simpa [ints] using a
 ·intro d g a
  rw [cell_of_row _ _ _ _ _ _ c];simp only [ints,List.map_drop] at a;rw [List.getElem?_drop] at a;simpa [ints] using a
theorem zbn (r:List Int)(a:r.length=64):(prog.info? 185).map (·.size)=some (ints r).length:=by rw [zhH];simp [ints,a]
theorem zlU (l z:Int):(ints (List.replicate 64 z)).toArray.setIfInBounds 0 (.int .i64 l)=(ints (l::List.replicate 63 z)).toArray:=by
 simp [ints,List.replicate_succ]
theorem yn:(prog.info? 109).map (·.size)=some 3:=by kernel_rfl
def YX (a:Nat)(b:Int)(x:List Int)(c:List Gate):Nat→List Int×List Gate
 |0=>([],c)
 |d+1=>let e:=YX a b x c d;let f:=gt a 2 b (x.getD d 0) e.2;(e.1++[f.1],f.2)
theorem zeY (b:Nat)(c:Int)(x:List Int)(a:List Gate)(k:Nat):(YX b c x a k).1.length=k∧(YX b c x a k).2.length=a.length+k:=by
 induction k with
 |zero=>simp [YX]
 |succ k ih=>simp [YX,gt,ih];omega
theorem zim (a:Nat)(b:Int)(x:List Int)(c:List Gate)(k:Nat)(d:k<x.length)(t:List Int×List Gate)(e:YX a b x c k=t):
  YX a b x c (k+1)=(t.1++[(gt a 2 b x[k] t.2).1],(gt a 2 b x[k] t.2).2):=by
 simp [YX,e,List.getD,d]
def zM (d f:Nat):Nat×List Gate×List Int:=
 if d=1 then
  let a:=Zb 128 f 1;let b:=gt 128 1 0 0 a.2;let e:=gt 128 3 (a.1.getD 63 0) 0 b.2;let g:=YX 128 e.1 a.1 e.2 63
  (128,g.2,g.1++[b.1])
 else
  let a:=Zb 256 f 2;let b:=gt 256 1 0 0 a.2;let c:=ZY 256 (a.1.take 64) (a.1.drop 64) b.2
  if d=2 then (256,c.2,c.1::List.replicate 63 b.1)
  else let h:=Yc 256 c.1 (a.1.drop 64) (a.1.take 64) c.2 64;(256,h.2,h.1)
theorem zjk (f:Nat)(t:List Int×List Gate)(a:Zb 128 f 1=t)(b:63<t.1.length)(z q:Int×List Gate)(c:gt 128 1 0 0 t.2=z)(d:gt 128 3 t.1[63] 0 z.2=q)(p:List Int×List Gate)(e:YX 128 q.1 t.1 q.2 63=p):
  zM 1 f=(128,p.2,p.1++[z.1]):=by
 simp only [zM,if_true,a,c];rw [show t.1.getD 63 0=t.1[63] by simp [List.getD,b],d,e]
theorem zjj (f:Nat)(t:List Int×List Gate)(a:Zb 256 f 2=t)(z l:Int×List Gate)(b:gt 256 1 0 0 t.2=z)(c:ZY 256 (t.1.take 64) (t.1.drop 64) z.2=l):
  zM 2 f=(256,l.2,l.1::List.replicate 63 z.1):=by
 have d:¬(2=1):=by decide
 simp only [zM,if_neg d,if_true,a,b,c]
theorem zli (f:Nat)(t:List Int×List Gate)(a:Zb 256 f 2=t)(z l p:_)(b:gt 256 1 0 0 t.2=z)(c:ZY 256 (t.1.take 64) (t.1.drop 64) z.2=l)
  (d:Yc 256 l.1 (t.1.drop 64) (t.1.take 64) l.2 64=p):zM 3 f=(256,p.2,p.1):=by
 have e:¬(3=1):=by decide
 have g:¬(3=2):=by decide
 simp only [zM,if_neg e,if_neg g,a,b,c,d]
def Ye (w:World)(a f:Nat)(e:Ending)(b:World):Prop:=
 ∃c d,e= .returned (.tuple #[.agg #[.int .i64 (zM a f).1,c,d],.nilIface])∧b.ownsRow w.heap.size 194 3 c (zM a f).2.1.length (yT (zM a f).2.1)∧
  Arr b.heap.size b 1 d (zM a f).2.2.length (ints (zM a f).2.2)∧Below w.heap.size w b
theorem rg {P:Program}{ops:Array Oper}{Q:Exit→Act→World→Prop}{id:Nat}{a:Act}{w:World}(S:World→Prop)(hS:S w.drew)(h:S w.drew→wpAnyH P .any ops (NoPanic Q) S ops.size (Array.replicate ops.size false) a w.drew)
  (hm:P.follows .mixedOrders=true:=by kernel_rfl):(Code.region id ops true).wp P Q a w:=wp_region_noPanic (wp_region_held_drew hm hS h)
section
variable {P:Program} {ops:Array Oper} {Q:Exit→Act→World→Prop} {md:Region.Mode} {S:World→Prop} {fuel:Nat} {listed:Array Bool} {a a':Act} {w:World}
theorem tk (i:Nat){oi:Oper}{v:Value}
  (h:wpAnyH P md ops Q S fuel (listed.setIfInBounds i true) a' w)
  (hi:ops[i]? =some oi:=by exact rfl) (hs:Region.noSelect ops=true:=by kernel_rfl) (hf:Region.free md ops listed i=true:=by kernel_rfl) (hr:(Region.ready md ops listed).contains i=true:=by kernel_rfl)
  (hQ:∀c a w,Q (.panic c) (a.put oi.dst v) w→Q (.panic c) a w:=by exact fun _ _ _ h=>h) (hw:Region.wanted oi (yielded ops a.tmps)=true:=by exact rfl)
  (hy:∀w,S w→(execOp a.eval oi).run P w= .ok (.value v) w:=by (intro w hSw;(try dsimp only at hSw);go_simp;(try with_reducible rfl)))
  (hS:S w:=by assumption)
  (he:a.put oi.dst v=a':=by ((try simp only [Act.put,List.getElem_toArray,List.getElem_cons_succ,List.getElem_cons_zero,List.setIfInBounds_toArray,List.set_cons_zero,List.set_cons_succ])<;>exact rfl)):
  wpAnyH P md ops Q S (fuel+1) listed a w:=wpAnyH_take hi hs hf hr hQ (.inl ⟨hw,hy⟩) hS (he▸h)
theorem tn (i:Nat){oi:Oper}
  (h:wpAnyH P md ops Q S fuel (listed.setIfInBounds i true) a' w)
  (hi:ops[i]? =some oi:=by exact rfl) (hs:Region.noSelect ops=true:=by kernel_rfl) (hf:Region.free md ops listed i=true:=by kernel_rfl) (hr:(Region.ready md ops listed).contains i=true:=by kernel_rfl)
  (hQ:∀c a w,Q (.panic c) (a.put oi.dst undef) w→Q (.panic c) a w:=by exact fun _ _ _ h=>h) (hw:Region.wanted oi (yielded ops a.tmps)=false:=by exact rfl)
  (hS:S w:=by assumption)
  (he:a.put oi.dst undef=a':=by ((try simp only [Act.put,List.getElem_toArray,List.getElem_cons_succ,List.getElem_cons_zero,List.setIfInBounds_toArray,List.set_cons_zero,List.set_cons_succ])<;>exact rfl)):
  wpAnyH P md ops Q S (fuel+1) listed a w:=wpAnyH_take hi hs hf hr hQ (.inr ⟨hw,rfl⟩) hS (he▸h)
theorem nx (h:wpAnyH P md ops Q S fuel listed a' w)
  (he:a=a':=by ((try simp only [Act.put,List.getElem_toArray,List.getElem_cons_succ,List.getElem_cons_zero,List.setIfInBounds_toArray,List.set_cons_zero,List.set_cons_succ])<;>exact rfl)):wpAnyH P md ops Q S fuel listed a w:=he▸h
theorem rd1 (i:Nat){o:Oper}
  (h:∀K':Act→World→Prop,Shut (∀a w,S w→(S w→wpAnyH P md ops Q S fuel (listed.setIfInBounds i true) a w)→K' a w)→if Region.wanted o (yielded ops a.tmps)=true then Oper.wp P o a w K' Q else K' (a.put o.dst undef) w)
  (hr:Region.ready md ops listed=[i]:=by kernel_rfl) (ho:ops[i]? =some o:=by exact rfl):wpAnyH P md ops Q S (fuel+1) listed a w:=
 wpAnyH_ready hr (by simp) (AllReadyH.cons ho h AllReadyH.nil)
theorem rd2 (i j:Nat){o u:Oper}
  (h:∀K':Act→World→Prop,Shut (∀a w,S w→(S w→wpAnyH P md ops Q S fuel (listed.setIfInBounds i true) a w)→K' a w)→if Region.wanted o (yielded ops a.tmps)=true then Oper.wp P o a w K' Q else K' (a.put o.dst undef) w)
  (h2:∀K':Act→World→Prop,Shut (∀a w,S w→(S w→wpAnyH P md ops Q S fuel (listed.setIfInBounds j true) a w)→K' a w)→if Region.wanted u (yielded ops a.tmps)=true then Oper.wp P u a w K' Q else K' (a.put u.dst undef) w)
  (hr:Region.ready md ops listed=[i,j]:=by kernel_rfl) (ho:ops[i]? =some o:=by exact rfl) (hu:ops[j]? =some u:=by exact rfl):wpAnyH P md ops Q S (fuel+1) listed a w:=
 wpAnyH_ready hr (by simp) (AllReadyH.cons ho h (AllReadyH.cons hu h2 AllReadyH.nil))
theorem dn (h:Q .normal a w)(hr:Region.ready md ops listed=[]:=by kernel_rfl):wpAnyH P md ops (NoPanic Q) S fuel listed a w:=wpAnyH_done hr (NoPanic.normal h) _
end
end Go.Proofs.YtklofgfkaaoipaaGreatDoor
