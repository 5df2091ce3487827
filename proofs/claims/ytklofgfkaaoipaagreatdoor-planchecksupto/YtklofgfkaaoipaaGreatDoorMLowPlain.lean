/-
  THE PLAIN MIRROR of package lower: a graph as a program.
-/
import Derived.Test.YtklofgfkaaoipaaGreatDoorMDagPlain
import Derived.Test.YtklofgfkaaoipaaGreatDoorMOps
import Derived.Test.YtklofgfkaaoipaaGreatDoorMParsePlain
import Derived.Deep.LoopGhost
import Derived.Test.YtklofgfkaaoipaaGreatDoorMMem
import Derived.IntWalk
import Derived.WalkSpells
import Derived.Deep.QuietTactic
import Derived.BigQuiet
import Derived.Test.YtklofgfkaaoipaaGreatDoorMMCheck
import Derived.Test.YtklofgfkaaoipaaGreatDoorMCircTop
import Derived.Test.YtklofgfkaaoipaaGreatDoorMHd
set_option maxHeartbeats 16000000
set_option maxRecDepth 100000
set_option linter.unusedSimpArgs false
set_option linter.unusedVariables false
namespace Go.Proofs.YtklofgfkaaoipaaGreatDoor
open Go.Proofs.Tryz
structure LS where
 ops:List MOp
 wt:List (Int×Int)
 full:Bool
def lOp (s:LS)(o:MOp):LS×Int:=if 16384≤s.ops.length then ({s with full:=true},0) else ({s with ops:=s.ops++[o]},s.ops.length)
def Z5 (s:LS)(k a b:Int):LS×Int:=lOp s ⟨k,a,b,0,0,0⟩
def zbF (s:LS)(k a:Int)(c:Nat):LS×Int:=lOp s ⟨k,a,0,0,c,0⟩
def zc6 (s:LS)(o a k:Int):LS×Int:=lOp s ⟨o,a,0,k,0,0⟩
def zgz (s:LS)(a:Int):LS×Int:=lOp s ⟨14,a,0,0,0,0⟩
def zkm:Nat:=18446744073709551615
def zqj:Nat:=9223372036854775808
def zcp:List Nat→LS→Int→Int→LS×Int
 |[],a,b,_=>(a,b)
 |e::f,a,b,c=>
  if a.full then (a,b)
  else
   let g:=zc6 a 11 b e;let h:=Z5 g.1 9 c g.2;let d:=Z5 h.1 7 b h.2
   if e<32 then let i:=zc6 d.1 11 c e;let j:=Z5 i.1 9 c i.2;zcp f j.1 d.2 j.2 else zcp f d.1 d.2 c
def zmV:List Nat:=[1,2,4,8,16,32]
def zco (s:LS)(w:Nat):LS×Int:=
 let a:=s.wt.getD w (0,0)
 if a.2<0 then
  let c:=lOp s ⟨15,a.1,0,0,0,0⟩;let d:=lOp c.1 ⟨15,a.1,0,0,0,1⟩;let e:=Z5 d.1 7 c.2 d.2;let f:=Z5 e.1 9 c.2 d.2
  let g:=zcp zmV f.1 f.2 e.2;let h:=zc6 g.1 11 g.2 1;let b:=Z5 h.1 7 e.2 h.2
  ({b.1 with wt:=b.1.wt.set w (a.1,b.2)},b.2)
 else (s,a.2)
def zeq (b:Int):Nat→Nat→LS→Int→LS×Int
 |0,_,c,d=>(c,d)
 |h+1,a,c,d=>
  if c.full then (c,d)
  else
   let f:=lOp c ⟨16,b,0,a,0,0⟩;let g:=lOp f.1 ⟨16,b,0,a,0,1⟩;let i:=Z5 g.1 6 f.2 g.2;let QZ:=zbF i.1 5 i.2 2
   let j:=Z5 QZ.1 3 f.2 g.2;let k:=Z5 j.1 4 j.2 QZ.2;let e:=zbF k.1 5 k.2 (2^a)
   if a=0 then zeq b h (a+1) e.1 e.2 else let l:=Z5 e.1 3 d e.2;zeq b h (a+1) l.1 l.2
def Q8 (s:LS)(w:Nat):LS×Int:=
 let a:=s.wt.getD w (0,0)
 if 0≤a.1 then (s,a.1) else let b:=zeq a.2 64 0 s 0;({b.1 with wt:=b.1.wt.set w (b.2,a.2)},b.2)
def zpu (s:LS)(x:Int×Int):LS×Nat:=({s with wt:=s.wt++[x]},s.wt.length)
def zdy (r:LS×Int):LS×Nat:=zpu r.1 (r.2,-1)
def zfF (r:LS×Int):LS×Nat:=zpu r.1 (-1,r.2)
def zo7 (s:LS)(x y:Int):LS×Int:=
 let a:=zbF s 8 x zqj;let b:=zbF a.1 8 y zqj;let c:=Z5 b.1 7 a.2 b.2;let d:=zbF c.1 8 a.2 zkm;let e:=Z5 d.1 9 d.2 b.2
 let f:=zbF e.1 8 c.2 zkm;let g:=zcp zmV f.1 e.2 f.2;zc6 g.1 12 g.2 63
def zo9 (s:LS)(m x y:Int):LS×Int:=let a:=Z5 s 7 x y;let b:=Z5 a.1 9 m a.2;Z5 b.1 7 y b.2
def lAt (b:List (List Nat))(n:MNode)(c i:Nat):Nat:=
 let a:=b.getD (n.args.getD c 0).toNat []
 if a.length=1 then a.getD 0 0 else a.getD i 0
def zah (s:LS)(x y:Nat)(a b:MNode)(i k:Nat):LS×Int:=
 if a.kind=2 then let c:=Q8 s y;zbF c.1 5 c.2 (a.elems.getD i 0)
 else if b.kind=2 then let c:=Q8 s x;zbF c.1 5 c.2 (b.elems.getD k 0)
 else let c:=Q8 s x;let d:=Q8 c.1 y;Z5 d.1 6 c.2 d.2
def zbE (s:LS)(w:Nat):Int×Nat:=let a:=s.wt.getD w (0,0);if 0≤a.1 then (a.1,0) else (a.2,1)
def zmR (s:LS)(b:List (List Nat))(n:MNode)(i:Nat):LS×Int:=
 let a:=zbE s (lAt b n 0 i)
 if n.kind=13∨n.kind=8 then let c:=zbE s (lAt b n 1 i);lOp s ⟨17,a.1,c.1,if n.kind=13 then 3 else 2,a.2 ||| (c.2 * 2),0⟩
 else lOp s ⟨17,a.1,0,1,a.2,0⟩
def zbq (g:MGraph)(a:Int):MNode:=g.nodes.getD a.toNat ⟨0, [], [],0,0,0, []⟩
def zaW (g:MGraph)(d:List (List Nat))(s:LS)(n:MNode)(m:Int)(i:Nat):LS×Nat:=
 let e:=lAt d n 0 i
 if n.kind=3 then let c:=Q8 s e;zdy (zbF c.1 5 c.2 zkm)
 else if n.kind=4 then let c:=Q8 s e;let f:=Q8 c.1 (lAt d n 1 i);zdy (Z5 f.1 3 c.2 f.2)
 else if n.kind=5 then let c:=Q8 s e;let f:=Q8 c.1 (lAt d n 1 i);zdy (Z5 f.1 4 c.2 f.2)
 else if n.kind=6 then
  let a:=zbq g (n.args.getD 0 0);let b:=zbq g (n.args.getD 1 0)
  zdy (zah s e (lAt d n 1 i) a b (min i (a.elems.length-1)) (min i (b.elems.length-1)))
 else if n.kind=9 then let c:=zco s e;zfF (zc6 c.1 13 c.2 n.k)
 else if n.kind=14 then
  let c:=zco s e;let h:=zgz c.1 c.2;let a:=zco h.1 (lAt d n 1 i);let b:=zco a.1 (lAt d n 2 i);zfF (zo9 b.1 h.2 a.2 b.2)
 else if m=2 then zfF (zmR s d n i)
 else if n.kind=10 then let a:=zco s e;let j:=zc6 a.1 12 a.2 63;let b:=zgz j.1 j.2;let k:=zbF b.1 8 b.2 zkm;zfF (Z5 k.1 9 a.2 k.2)
 else if n.kind=8 then let a:=zco s e;let b:=zco a.1 (lAt d n 1 i);zfF (zo7 b.1 a.2 b.2)
 else let a:=zco s e;let b:=zco a.1 (lAt d n 1 i);let l:=zo7 b.1 a.2 b.2;let h:=zgz l.1 l.2;zfF (zo9 h.1 h.2 b.2 a.2)
def zw (o:MOp):Nat:=if o.kind=1∨o.kind=2 then 0 else if o.kind=3∨o.kind=4∨o.kind=6∨o.kind=7∨o.kind=9∨(o.kind=17∧o.k≠1) then 2 else 1
def ZX (ops:List MOp):List Nat→List Nat→List MOp→List MOp
 |[],_,b=>b
 |d::e,c,b=>
  let a:=ops.getD d ⟨0,0,0,0,0,0⟩
  ZX ops e (c.set d b.length) (b++[⟨a.kind,if 0<zw a then (c.getD a.a.toNat 0:Nat) else a.a,if 1<zw a then (c.getD a.b.toNat 0:Nat) else a.b,a.k,a.c,a.party⟩])
def zcq (ops:List MOp)(a:List Nat):List MOp:=ZX ops a (List.replicate ops.length 0) []
def zaX (ops:List MOp):Nat→List Nat→List Nat
 |0,a=>a
 |c+1,a=>
  let b:=ops.getD c ⟨0,0,0,0,0,0⟩
  let a:=if b.kind=18∨b.kind=19∨b.kind=17 then a.set c 1 else a
  let a:=if a.getD c 0=1∧0<zw b then a.set b.a.toNat 1 else a
  zaX ops c (if a.getD c 0=1∧1<zw b then a.set b.b.toNat 1 else a)
def zaw (m:List Nat):List Nat:=(List.range m.length).filter fun a=>m.getD a 0==1
def zcr (ops:List MOp):List MOp:=zcq ops (zaw (zaX ops ops.length (List.replicate ops.length 0)))
end Go.Proofs.YtklofgfkaaoipaaGreatDoor
namespace Go.Proofs.YtklofgfkaaoipaaGreatDoor
open Go.RowKit Go.Proofs.Tryz
variable {B L b:Nat}{W D E A:World}{G:Value×Value×Value×Value×Value×Value×Value}{ops:List MOp}{full:Bool}{h:Value}{wbs:List Nat}{wt:List (Int×Int)}{F:Array Value}
structure LMod (B:Nat)(W W':World):Prop where
 low:Below B W W'
 ty:∀(b:Nat) (cs:Array Value) (t:TypeId) (fr:Nat×Nat),W.heap[b]? =some (Obj.cells cs t fr)→t≠248→t≠61→W'.heap[b]? =some (Obj.cells cs t fr)
theorem LMod.refl (B:Nat)(W:World):LMod B W W:=⟨Below.refl _ _,fun _ _ _ _ a _ _=>a⟩
theorem LMod.trans (a:LMod B W D)(k:LMod B D E):LMod B W E:=⟨a.low.trans k.low,fun b c d e h f g=>k.ty b c d e (a.ty b c d e h f g) f g⟩
theorem LMod.below (a:Below W.heap.size W A)(c:B≤W.heap.size):LMod B W A:=⟨a.mono c,fun d e f g b _ _=>(a.block d (qd b)).trans b⟩
theorem LMod.grown {g:Option Nat}(h:W.grownBy A g)(k:B≤W.heap.size)(i:∀a,g=some a→B≤a∧∀c b d,W.heap[a]? =some (Obj.cells c b d)→b=248∨b=61):LMod B W A:=by
 refine ⟨Qq h k fun a l=>(i a l).1,fun j c b d e m n=>(h.block j (qd e) fun o=> ?_).trans e⟩;rcases (i j o.symm).2 c b d e with f | f
 ·exact m f
 ·exact n f
structure LAt (B L:Nat)(G:Value×Value×Value×Value×Value×Value×Value)(ops:List MOp)(full:Bool)(ov:Value)(W:World):Prop where
 blk:W.heap[L]? =some (.cells #[G.1,G.2.1,G.2.2.1,G.2.2.2.1,ov,G.2.2.2.2.1,G.2.2.2.2.2.1,G.2.2.2.2.2.2,.bool full] 248 (0,0))
 own:W.ownsRow B 61 6 ov ops.length (qz ops)
 hB:B≤L
 len:ops.length≤16384
theorem LAt.lt (a:LAt B L G ops full h W):L<W.heap.size:=qd a.blk
theorem LAt.blt (a:LAt B L G ops full h W):B≤W.heap.size:=by have:=a.hB;have:=a.lt;omega
theorem LAt.later (a:LAt B L G ops full h W)(b:Below W.heap.size W A):LAt B L G ops full h A:=
 ⟨(b.block _ a.lt).trans a.blk,Below.owns a.own b,a.hB,a.len⟩
theorem LAt.cells (b:LAt B L G ops full h W):
  (W.cell? ⟨L,4,none⟩=some h∧W.cell? ⟨L,5,none⟩=some G.2.2.2.2.1∧W.cell? ⟨L,8,none⟩=some (.bool full))∧∀a,W.frozen? ⟨L,a,none⟩=false:=by
 have c:=b.blk;refine ⟨⟨?_,?_,?_⟩,fun a=> ?_⟩<;>simp [World.cell?,World.frozen?,c]
def zpZ (B b:Nat)(c:Value×Value×Value×Value×Value×Value×Value)(r:LS×Int)(W:World)(e:Ending)(a:World):Prop:=
 e= .returned (.int .i64 r.2)∧LMod B W a∧∃d,LAt B b c r.1.ops r.1.full d a
theorem LAt.add {c:Value}{a:World}(b:LAt B L G ops full h W)(o:MOp)(s:ops.length<16384)(f:W.grownBy a h.ownBlock)
  (m:a.ownsRow B 61 6 c (ops.length+1) (qz ops++o.arr.toList)):
  a.heap[L]? =some (.cells #[G.1,G.2.1,G.2.2.1,G.2.2.2.1,h,G.2.2.2.2.1,G.2.2.2.2.2.1,G.2.2.2.2.2.2,.bool full] 248 (0,0))∧LMod B W (a.setCell ⟨L,4,none⟩ c)∧LAt B L G (ops++[o]) full c (a.setCell ⟨L,4,none⟩ c):=by
 have n:LMod B W a:=LMod.grown f b.blt fun g e=>⟨(b.own.lt g e).1,fun i j k d=> .inr (zks b.own e i j k d)⟩
 have d:a.heap[L]? =some (.cells #[G.1,G.2.1,G.2.2.1,G.2.2.2.1,h,G.2.2.2.2.1,G.2.2.2.2.2.1,G.2.2.2.2.2.2,.bool full] 248 (0,0)):=(f.block L b.lt fun p=>yz b.own b.blk (by decide) p.symm).trans b.blk;have q:LMod B a (a.setCell ⟨L,4,none⟩ c):=LMod.grown (qh a L 4 c) (by have:=f.size;have:=b.blt;omega) (fun g e=>by
  obtain rfl:L=g:=by simpa using e
  exact ⟨b.hB,fun i j k l=>by rw [d] at l;cases l;exact .inl rfl⟩)
 refine ⟨d,n.trans q,by rw [heap_setCell d];rfl,?_,b.hB,by simp;omega⟩;have r:qz (ops++[o])=qz ops++o.arr.toList:=by simp [qz,MOp.arr]
 rw [r,List.length_append];exact qp m (qh a L 4 c) (Off.block d (by decide))
theorem LMod.set (a:LAt B L G ops full h W)(j:Nat)(x:Value):LMod B W (W.setCell ⟨L,j,none⟩ x):=
 LMod.grown (qh W L j x) a.blt (fun c d=>by
  obtain rfl:L=c:=by simpa using d
  exact ⟨a.hB,fun e f g b=>by rw [a.blk] at b;cases b;exact .inl rfl⟩)
theorem LAt.fill (a:LAt B L G ops full h W):LAt B L G ops true h (W.setCell ⟨L,8,none⟩ (.bool true)):=
 ⟨by rw [heap_setCell a.blk];rfl,qp a.own (qh W L 8 _) (Off.block a.blk (by decide)),a.hB,a.len⟩
theorem LMod.alloc (a:LMod B W D)(b:B≤D.heap.size)(o:Obj):LMod B W (D.alloc o):=a.trans (LMod.below ((Below.refl _ _).alloc (Nat.le_refl _) _) b)
theorem LAt.alloc (a:LAt B L G ops full h W)(o:Obj):LAt B L G ops full h (W.alloc o):=a.later ((Below.refl _ _).alloc (Nat.le_refl _) _)
theorem zcw:(prog.info? 61).map (fun a=>(a.zero,a.size,a.bytes))=some (some (.agg #[.int .i64 0,.int .i64 0,.int .i64 0,.int .i64 0,.int .u64 0,.int .i64 0]),6,48):=by kernel_rfl
variable {s:LS}
theorem zgE (a:LAt B L G s.ops s.full h W)(o:MOp):
  Calls prog 124 #[.pointer (some ⟨L,0,none⟩),.agg o.arr] W (zpZ B L G (lOp s o) W):=by
 obtain ⟨b,c,d,e,f,g⟩:=o;unfold MOp.arr;obtain ⟨⟨K,-,M⟩,l⟩:=a.cells;have i:=Z a;have N:=a.lt;have C:=a.blt;obtain ⟨q,r,rfl,O,-⟩:=qg a.own
 by_cases j:16384≤s.ops.length
 ·have m:=Z (show lOp s (MOp.mk b c d e f g)=({s with full:=true},0) by unfold lOp;rw [if_pos j])
  have k1:(16384:Int)≤(s.ops.length:Int):=by omega
  rw [m.out];have P:=l 8;clear a j l;go_enter func124,ntmps124;go_wp2_with fail;go_ret;exact ⟨rfl,(LMod.set i 8 _).alloc i.fill.blt _,_,i.fill.alloc _⟩
 ·have m:=Z (show lOp s (MOp.mk b c d e f g)=({s with ops:=s.ops++[(MOp.mk b c d e f g)]},(s.ops.length:Int)) by unfold lOp;rw [if_neg j])
  have k1:¬(16384:Int)≤(s.ops.length:Int):=by omega
  have D:s.ops.length<16384:=by omega
  rw [m.out];clear a j l;go_enter func124,ntmps124;go_upto_region 4 with fail;have n:=((Below.refl W.heap.size W).alloc (Nat.le_refl _) (.cells #[.int .i64 b,.int .i64 c,.int .i64 d,.int .i64 e,.int .u64 f,.int .i64 g] 61)).drew;have p:=Z (i.later n);have E:=Z n;have F:=p.blt;clear n;go_cut [] from 14 to 23 (fun t=>∃(u:Nat) (v:Option Addr),Hid (LMod B W t)∧Hid (LAt B L G (s.ops++[(MOp.mk b c d e f g)]) s.full (.slice v (s.ops.length+1) u) t))
  case first=>
   first | (go_region_law (refine yo (by rfl) _ _ 22 (by rfl) 61 _ 6 48 underlying22 zcw rfl (by decide) #[.int .i64 b,.int .i64 c,.int .i64 d,.int .i64 e,.int .u64 f,.int .i64 g] s.ops.length B (.slice q s.ops.length r) (qz s.ops) p.own (by rfl) (by rw [World.size_alloc];rfl) rfl (by simp [Value.oneCell']) F (by omega) (by unfold maxLen;omega) ?_;intro H I w x y;have k:=p.add (MOp.mk b c d e f g) D y x;have Q:=(show w.frozen? ⟨L,4,none⟩=false by simp [World.frozen?,k.1]);have k4:=(show w.cell? ⟨L,4,none⟩=some (.slice q s.ops.length r) by simp [World.cell?,k.1]);have z:=Z k;clear x y k)) | (fail "region")
   all_goals
    go_wp2_with fail;go_meet;exact ⟨I,some ⟨H,0,none⟩,(LMod.below E C).trans z.2.1,z.2.2⟩
  case rest=>
  obtain ⟨u,v,J,A⟩:=hcut;have R:=A.cells.1.1;go_wp2_with fail;go_ret;exact ⟨rfl,J,_,A⟩
theorem zm0 (c:LAt B L G s.ops s.full h W)(k a b:Int):
  Calls prog 178 #[.pointer (some ⟨L,0,none⟩),.int .i64 k,.int .i64 a,.int .i64 b] W (zpZ B L G (Z5 s k a b) W):=by
 have e:=Z c;clear c;go_enter func178,ntmps178;go_wp2_with (go_at_call 124;refine (zgE e ⟨k,a,b,0,0,0⟩).mono ?_;rintro g i ⟨rfl,d⟩;have f:=Z d;clear d);go_ret;exact ⟨rfl,f⟩
abbrev ziH (x:Int×Int):Obj:= .cells #[.int .i64 x.1,.int .i64 x.2] 312
structure LMod2 (B:Nat)(W W':World):Prop where
 low:Below B W W'
 ty:∀(b:Nat) (cs:Array Value) (t:TypeId) (fr:Nat×Nat),W.heap[b]? =some (Obj.cells cs t fr)→t≠248→t≠61→t≠312→W'.heap[b]? =some (Obj.cells cs t fr)
theorem LMod.two (a:LMod B W A):LMod2 B W A:=⟨a.low,fun b c d e f g h _=>a.ty b c d e f g h⟩
theorem LMod2.trans (a:LMod2 B W D)(k:LMod2 B D E):LMod2 B W E:=⟨a.low.trans k.low,fun b c d e i f g h=>k.ty b c d e (a.ty b c d e i f g h) f g h⟩
structure WTab (B:Nat)(wbs:List Nat)(wt:List (Int×Int))(W:World):Prop where
 len:wbs.length=wt.length
 cell:∀i,∀h:i<wbs.length,W.heap[wbs[i]]? =some (.cells #[.int .i64 (wt.getD i (0,0)).1,.int .i64 (wt.getD i (0,0)).2] 312 (0,0))
 hB:∀b∈wbs,B≤b
 nd:wbs.Nodup
theorem WTab.lmod (a:WTab B wbs wt W)(b:LMod B W A):WTab B wbs wt A:=⟨a.len,fun c d=>b.ty _ _ _ _ (a.cell c d) (by decide) (by decide),a.hB,a.nd⟩
theorem WTab.later (a:WTab B wbs wt W)(d:Below W.heap.size W A):WTab B wbs wt A:=⟨a.len,fun b c=>(d.block _ (qd (a.cell b c))).trans (a.cell b c),a.hB,a.nd⟩
theorem LMod2.word (d:W.heap[b]? =some (.cells F 312 (0,0)))(f:B≤b)(j:Nat)(x:Value):LMod2 B W (W.setCell ⟨b,j,none⟩ x):=by
 have e:=qh W b j x;refine ⟨Qq e (by have:=qd d;omega) (fun c a=>Nat.le_trans f (Nat.le_of_eq (by simpa using a))),fun c F i k a _ _ g=>(e.block c (qd a) fun h=> ?_).trans a⟩;obtain rfl:c=b:=by simpa using h
 rw [d] at a;cases a;exact g rfl
theorem LAt.word (a:LAt B L G ops full h W)(c:W.heap[b]? =some (.cells F 312 (0,0)))(j:Nat)(x:Value):
  LAt B L G ops full h (W.setCell ⟨b,j,none⟩ x):=by
 refine ⟨(qe (fun e=> ?_) _).trans a.blk,qp a.own (qh W b j x) (Off.block c (by decide)),a.hB,a.len⟩;subst e;have d:=a.blk;rw [c] at d;simp at d
theorem WTab.cells (b:WTab B wbs wt W)(i:Nat)(c:i<wbs.length):
  W.cell? ⟨wbs[i],0,none⟩=some (.int .i64 (wt.getD i (0,0)).1)∧W.cell? ⟨wbs[i],1,none⟩=some (.int .i64 (wt.getD i (0,0)).2)∧W.frozen? ⟨wbs[i],1,none⟩=false∧W.frozen? ⟨wbs[i],0,none⟩=false∧wbs[i]<W.heap.size:=by
 have a:=b.cell i c;refine ⟨?_,?_,?_,?_,qd a⟩<;>simp [World.cell?,World.frozen?,a]
theorem zmT (s:LS)(o:MOp):(lOp s o).1.wt=s.wt:=by unfold lOp;split<;>rfl
theorem zfK (x:Int)(w:World):Calls prog 174 #[.int .i64 x] w fun a b=>a= .returned (.pointer (some ⟨w.heap.size,0,none⟩))∧w.alloc (ziH (x,-1))=b:=by
 go_enter func174,ntmps174;go_wp2;go_ret;exact ⟨rfl,rfl⟩
theorem zld {w:World}(c:WTab B wbs s.wt w)(i:Nat)(g:i<wbs.length):
  Calls prog 123 #[.pointer (some ⟨wbs[i],0,none⟩)] w fun h j=>h= .returned (.tuple #[.int .i64 (zbE s i).1,.int .u64 (zbE s i).2])∧w=j:=by
 obtain ⟨d,e,-,-,-⟩:=c.cells i g;generalize wbs[i]=l at d e ⊢;obtain ⟨⟨a,k⟩,b⟩:∃a,s.wt.getD i (0,0)=a:=⟨_,rfl⟩;rw [b] at d e;simp only at d e
 by_cases f:0≤a
 ·rw [show zbE s i=(a,0) by unfold zbE;simp only [b];rw [if_pos f]]
  clear b c;go_enter func123,ntmps123;go_wp2;go_ret2;exact ⟨rfl,rfl⟩
 ·rw [show zbE s i=(k,1) by unfold zbE;simp only [b];rw [if_neg f]]
  have m:a<0:=by omega
  clear b c;go_enter func123,ntmps123;go_wp2;go_ret2;exact ⟨rfl,rfl⟩
def zoZ (B b:Nat)(c:Value×Value×Value×Value×Value×Value×Value)(wbs:List Nat)(r:LS×Int)(W:World)(e:Ending)(a:World):Prop:=
 e= .returned (.int .i64 r.2)∧LMod2 B W a∧(∃d,LAt B b c r.1.ops r.1.full d a)∧WTab B wbs r.1.wt a
theorem zev (g:LAt B L G s.ops s.full h W)(c:WTab B wbs s.wt W)(i:Nat)(k:i<wbs.length)(a:0≤(s.wt.getD i (0,0)).1):
  Calls prog 177 #[.pointer (some ⟨L,0,none⟩),.pointer (some ⟨wbs[i],0,none⟩)] W (zoZ B L G wbs (Q8 s i) W):=by
 have l:=Z g;have m:=Z c;obtain ⟨⟨b,p⟩,d⟩:∃b,s.wt.getD i (0,0)=b:=⟨_,rfl⟩;obtain ⟨e,f,n,-,o⟩:=c.cells i k;generalize wbs[i]=q at e f n o ⊢;rw [d] at e f a;simp only at e f a;have j:Q8 s i=(s,b):=by simp only [Q8,d];rw [if_pos a]
 have r:(0≤b)=True:=eq_true a;rw [j];clear g c j d a;go_enter func177,ntmps177;go_wp2_with fail;go_ret;exact ⟨rfl,(LMod.refl B W).two,⟨_,l⟩,m⟩
theorem WTab.new (b:WTab B wbs wt W)(m:B≤W.heap.size)(x:Int×Int):WTab B (wbs++[W.heap.size]) (wt++[x]) (W.alloc (ziH x)):=by
 refine ⟨by simp [b.len],fun c e=> ?_,fun f g=> ?_,?_⟩
 ·rcases Nat.lt_or_ge c wbs.length with a | a
  ·have d:c<wt.length:=by rw [←b.len];exact a
   rw [List.getElem_append_left a,heap_alloc_old _ _ (qd (b.cell c a)),b.cell c a];simp [List.getD,List.getElem?_append_left d]
  ·have d:c=wbs.length:=by simp at e;omega
   subst d;rw [List.getElem_append_right (Nat.le_refl _)];simp only [Nat.sub_self,List.getElem_cons_zero];rw [heap_alloc_new];simp [List.getD,b.len]
 ·rcases List.mem_append.1 g with a | a
  ·exact b.hB f a
  ·simp at a;omega
 ·rw [List.nodup_append]
  refine ⟨b.nd,by simp,fun n h o i j=> ?_⟩;simp at i;subst j;obtain ⟨k,l,rfl⟩:=List.getElem_of_mem h;have:=qd (b.cell k l);omega
abbrev ndV (n:MNode)(a b c:Value):Value:= .agg #[.int .i64 n.kind,a,b,.int .i64 n.party,.int .i64 n.input,.int .i64 n.k,c]
def zcx (n:MNode):Bool:=n.kind==10||n.kind==8||n.kind==13
theorem zee (n:MNode)(e f g:Value)(w:World)(h:∃a b c,e= .slice a b c)(i:∃a b c,f= .slice a b c)(j:∃a b c,g= .slice a b c):
  Calls prog 118 #[ndV n e f g] w fun k l=>k= .returned (.bool (zcx n))∧Below w.heap.size w l:=by
 obtain ⟨m,o,p,rfl⟩:=h;obtain ⟨q,r,s,rfl⟩:=i;obtain ⟨t,u,v,rfl⟩:=j;obtain ⟨d,x,y,z,A,B,C⟩:=n;unfold zcx ndV;simp only;rcases k10:(d==10) with _ | _
 ·rcases k8:(d==8) with _ | _
  ·rcases k13:(d==13) with _ | _
   ·go_enter func118,ntmps118
    go_wp2;go_ret;exact ⟨rfl,(Below.refl _ _).alloc (Nat.le_refl _) _⟩
   ·go_enter func118,ntmps118
    go_wp2;go_ret;exact ⟨rfl,(Below.refl _ _).alloc (Nat.le_refl _) _⟩
  ·go_enter func118,ntmps118
   go_wp2;go_ret;exact ⟨rfl,(Below.refl _ _).alloc (Nat.le_refl _) _⟩
 ·go_enter func118,ntmps118
  go_wp2;go_ret;exact ⟨rfl,(Below.refl _ _).alloc (Nat.le_refl _) _⟩
def zdf (wbs ids:List Nat):List Value:=ids.map fun a=> .pointer (some ⟨wbs.getD a 0,0,none⟩)
def QX (B:Nat)(W:World)(d:Value)(wbs:List Nat)(c:List (List Nat)):Prop:=
 ∃a,W.ownsRow B 249 1 d a.length a∧a.length=c.length∧∀b,∀e:b<a.length,∀f:b<c.length,W.ownsRow B 251 1 a[b] c[b].length (zdf wbs c[b])
theorem zon {a:List (List Nat)}(g:LAt B L G ops full h W)(S:QX B W G.2.2.2.2.1 wbs a)
  (n:MNode) (u v w:Value) (T:∃m o p,u= .slice m o p) (U:∃m o p,w= .slice m o p) (x:Arr W.heap.size W 1 v n.args.length (ints n.args)) (b i j:Nat) (y:b<n.args.length) (q:n.args[b]=(j:Int)) (z:j<a.length)
  (k:a[j].length=1∨i<a[j].length) (aj:a.length≤1000000∧a[j].length≤1000000):
  Calls prog 211 #[.pointer (some ⟨L,0,none⟩),ndV n u v w,.int .i64 b,.int .i64 i] W fun V X=>V= .returned (.pointer (some ⟨wbs.getD (lAt a n b i) 0,0,none⟩))∧Below W.heap.size W X:=by
 obtain ⟨ak,al,am,rfl⟩:=T;obtain ⟨A,C,an,rfl⟩:=U;obtain ⟨ao,ap,rfl,aq,ar,-,D⟩:=x.open;obtain ⟨Y,aa,rfl,au,E⟩:=D (by omega);have av:W.cell? ⟨Y,aa+b,none⟩=some (.int .i64 j):=by rw [E b (by omega)];simp [ints,y,q]
 obtain ⟨l,F,aw,H⟩:=S;have I:j<l.length:=by omega
 have r:=H j I z;obtain ⟨⟨-,ab,-⟩,-⟩:=g.cells;obtain ⟨ax,ay,J,az,K⟩:=qg F;rw [J] at ab;obtain ⟨ac,rfl,-,aA,M⟩:=K (by omega);have N:W.cell? ⟨ac,j,none⟩=some l[j]:=by rw [M j (by omega)];simp [I]
 generalize l[j]=aB at N r;obtain ⟨aC,aD,rfl,ad,O⟩:=qg r;obtain ⟨ae,rfl,-,aE,P⟩:=O (by rcases k with g | g<;>omega);have aF:=g.lt;have Q:lAt a n b i=if a[j].length=1 then a[j].getD 0 0 else a[j].getD i 0:=by
  unfold lAt;have A:(n.args.getD b 0).toNat=j:=by simp [List.getD,y,q]
  simp only [A];have C:a.getD j []=a[j]:=by simp [List.getD,z]
  rw [C]
 have s:=Z Q;have aG:(b:Int)<(n.args.length:Int):=by omega
 have aH:(0:Int)≤(j:Int):=by omega
 have aI:(j:Int)<(l.length:Int):=by omega
 have aJ:(0:Int)≤(b:Int):=by omega
 have d:∀e,e<a[j].length→W.cell? ⟨ae,e,none⟩=some (.pointer (some ⟨wbs.getD (a[j].getD e 0) 0,0,none⟩)):=fun e af=>by
  rw [P e (by omega)];simp [zdf,af,List.getD]
 obtain ⟨c,R⟩:∃c,a[j]=c:=⟨_,rfl⟩;rw [R] at d k ad s N;clear E M P H F r K D x Q q R J O
 by_cases f:c.length=1
 ·rw [s.out,if_pos f]
  have k1:((c.length:Int)==1)=true:=by simp [f]
  have t:=d 0 (by omega);have ag:(0:Int)<(c.length:Int):=by omega
  generalize c.getD 0 0=ah at t ⊢;clear d f k;go_enter func211,ntmps211;go_wp2_with fail
  first | go_quiet (fail) | (fail "region")
  go_wp2_with fail;go_ret;exact ⟨rfl,qC ((Below.refl _ _).alloc (Nat.le_refl _) _) _⟩
 ·rw [s.out,if_neg f]
  have k1:((c.length:Int)==1)=false:=by simp;omega
  have ai:i<c.length:=by omega
  have t:=d i ai;have ag:(0:Int)≤(i:Int):=by omega
  have aK:(i:Int)<(c.length:Int):=by omega
  generalize c.getD i 0=ah at t ⊢;clear d f k;go_enter func211,ntmps211;go_wp2_with fail
  first | go_quiet (fail) | (fail "region")
  go_wp2_with fail;go_ret;exact ⟨rfl,qC ((Below.refl _ _).alloc (Nat.le_refl _) _) _⟩
theorem zgF (l:LAt B L G s.ops s.full h W)(v:WTab B wbs s.wt W)(x y:Nat)(S:x<wbs.length)(T:y<wbs.length)
  (m:0≤(s.wt.getD x (0,0)).1) (n:0≤(s.wt.getD y (0,0)).1) (a b:MNode) (a1 a2 a3 w z A:Value) (o:a.kind≠2) (p:b.kind≠2) (i k:Nat)
  (U:(∃c d e,a1= .slice c d e)∧(∃c d e,a2= .slice c d e)∧(∃c d e,a3= .slice c d e)∧(∃c d e,w= .slice c d e)∧(∃c d e,z= .slice c d e)∧(∃c d e,A= .slice c d e)):
  Calls prog 204 #[.pointer (some ⟨L,0,none⟩),.pointer (some ⟨wbs[x],0,none⟩),.pointer (some ⟨wbs[y],0,none⟩),ndV a a1 a2 a3,ndV b w z A,.int .i64 i,.int .i64 k] W (zoZ B L G wbs (zah s x y a b i k) W):=by
 obtain ⟨⟨_,_,_,rfl⟩,⟨_,_,_,rfl⟩,⟨_,_,_,rfl⟩,⟨_,_,_,rfl⟩,⟨_,_,_,rfl⟩,⟨_,_,_,rfl⟩⟩:=U;have V:=Z l;have X:=l.blt;have Y:=Z v;have ao:=Z (LMod.refl B W);obtain ⟨f,C⟩:∃f,(s.wt.getD x (0,0)).1=f:=⟨_,rfl⟩;obtain ⟨g,D⟩:∃g,(s.wt.getD y (0,0)).1=g:=⟨_,rfl⟩;have q:Q8 s x=(s,f):=by simp only [Q8];rw [if_pos m,C]
 have r:Q8 s y=(s,g):=by simp only [Q8];rw [if_pos n,D]
 obtain ⟨⟨t,E⟩,j⟩:∃aa,Z5 s 6 f g=aa:=⟨_,rfl⟩;have F:t.wt=s.wt:=by have:=zmT s ⟨6,f,g,0,0,0⟩;rw [show lOp s ⟨6,f,g,0,0,0⟩=(t,E) from j] at this;exact this
 have H:zah s x y a b i k=(t,E):=by unfold zah;rw [if_neg o,if_neg p];simp only [q,r,j]
 rw [H];have ab:=Z q;have ac:=Z r;have ad:=Z j;have ae:=Z F;have ap:(a.kind==2)=false:=by simpa using o
 have aq:(b.kind==2)=false:=by simpa using p
 clear l v q r j F H o p C D;have I:=Z (And.intro m n);clear m n;go_enter func204,ntmps204;go_wp2_with (first | (go_at_call 178;refine (zm0 af 6 f g).mono ?_;rw [ad.out];rintro J ar ⟨rfl,u,au,K⟩;have ag:=Z (ah.trans u.two);have ai:=Z K;have aj:=Z (ak.lmod u);clear u K) | (go_at_call 177;refine (zev al am y T I.2).mono ?_;rw [ac.out];rintro J av ⟨rfl,M,⟨aw,N⟩,O⟩;have ah:=Z (an.trans M);have af:=Z N;have ak:=Z O;clear M N O) | (go_at_call 177;refine (zev (V.later (qm W _ _)) (Y.later (qm W _ _)) x S I.1).mono ?_;rw [ab.out];rintro J ax ⟨rfl,P,⟨ay,Q⟩,R⟩;have an:=Z ((LMod.below (qm W _ _) X).two.trans P);have al:=Z Q;have am:=Z R;clear P Q R));go_ret;refine ⟨rfl,ag,⟨_,ai⟩,?_⟩;rw [ae.out];exact aj
end Go.Proofs.YtklofgfkaaoipaaGreatDoor
namespace Go.Proofs.YtklofgfkaaoipaaGreatDoor
open Go.Proofs.Tryz
def ZE:Int→List (List Int)→List Int
 |_, []=>[]
 |a,b::c=>a::ZE (a+qN b) c
def zmS (c base:Int):Nat→Nat→LS→List Nat→LS×List Nat
 |0,_,a,b=>(a,b)
 |f+1,d,a,b=>let e:=zdy (lOp a ⟨1,0,0,base+d,0,c⟩);zmS c base f (d+1) e.1 (b++[e.2])
def zes (g:MGraph)(c:List (List Nat))(n:MNode)(d:Int):Nat→Nat→LS→List Nat→LS×List Nat
 |0,_,a,b=>(a,b)
 |h+1,e,a,b=>if a.full then (a,b) else let f:=zaW g c a n d e;zes g c n d h (e+1) f.1 (b++[f.2])
def zcs (g:MGraph)(a:List (List Nat))(s:LS)(n:MNode):LS×List Nat:=
 if n.kind=1 then zmS n.party ((ZE 0 (g.ins n.party)).getD n.input.toNat 0) (qN n.shape).toNat 0 s [] else zes g a n 1 (qN n.shape).toNat 0 s []
def zaY (g:MGraph):List MNode→LS→List (List Nat)→LS×List (List Nat)
 |[],b,a=>(b,a)
 |d::e,b,a=>let c:=zcs g a b d;zaY g e c.1 (a++[c.2])
def zpa:List Nat→Int→LS→LS
 |[],_,a=>a
 |d::e,b,a=>let c:=zbE a d;zpa e (b+1) (lOp a ⟨18+c.2,c.1,0,b,0,0⟩).1
def zo8 (b:List (List Nat)):List Int→Int→LS→LS
 |[],_,a=>a
 |e::f,c,a=>let d:=b.getD e.toNat [];zo8 b f (c+d.length) (zpa d c a)
def zqi (g:MGraph):LS:=let a:=zaY g g.nodes ⟨[], [],false⟩ [];zo8 a.2 g.outs 0 a.1
def zgv (g:MGraph):List MOp:=let a:=zcr (zqi g).ops;zcq a (List.range a.length)
def exG:MGraph:=⟨[⟨1, [], [],0,0,0, []⟩,⟨1, [], [],1,0,0, []⟩,⟨6, [], [0,1],0,0,0, []⟩], [2], [[]], [[]]⟩
end Go.Proofs.YtklofgfkaaoipaaGreatDoor
namespace Go.Proofs.YtklofgfkaaoipaaGreatDoor
open Go.RowKit Go.Proofs.Tryz
variable {B b n L R:Nat}{W A w T N:World}{v E h F G H O Q:Value}{I J K:List Value}{g:MGraph}{wbs:List Nat}{D:List (List Nat)}{M:Value×Value×Value×Value×Value×Value×Value}{ops:List MOp}{full:Bool}{wt:List (Int×Int)}
theorem LMod2.refl (B:Nat)(W:World):LMod2 B W W:=(LMod.refl B W).two
theorem LMod2.below (a:Below W.heap.size W A)(b:B≤W.heap.size):LMod2 B W A:=(LMod.below a b).two
theorem LMod2.owns (e:LMod2 B W A){t:TypeId}{k:Nat}(a:W.ownsRow b t k v n I)(f:t≠248)(g:t≠61)(h:t≠312):A.ownsRow b t k v n I:=by
 rcases a.2 with i | ⟨c,j,d,l,m,o,p⟩
 ·exact ⟨a.1,.inl i⟩
 ·exact ⟨a.1,.inr ⟨c,j,d,l,m,e.ty c d t _ o f g h,p⟩⟩
theorem LMod2.nest (a:LMod2 B W A):∀{c:List Value} {d:List (List Int)},qj b W c d→qj b A c d
 |[], [],_=>trivial
 |_::_,_::_,e=>⟨a.owns e.1 (by decide) (by decide) (by decide),a.nest e.2⟩
theorem LMod2.sh {l:List (List Int)}(a:LMod2 B W A)(k:qO b W v l):qO b A v l:=by
 obtain ⟨c,d,e⟩:=k;exact ⟨c,a.owns d (by decide) (by decide) (by decide),a.nest e⟩
theorem GAt.lmod (a:GAt b W E h F G g J K)(k:LMod2 B W A):GAt b A E h F G g J K:=
 ⟨k.owns a.nodes (by decide) (by decide) (by decide),k.nest a.sh,k.nest a.ar,k.owns a.outs (by decide) (by decide) (by decide),k.sh a.in0,k.sh a.in1,a.el⟩
theorem QX.lmod (a:QX b W H wbs D)(k:LMod2 B W A):QX b A H wbs D:=by
 obtain ⟨c,d,e,f⟩:=a;exact ⟨c,k.owns d (by decide) (by decide) (by decide),e,fun g h i=>k.owns (f g h i) (by decide) (by decide) (by decide)⟩
theorem zbv {wbs more:List Nat}:∀{ids:List Nat},(∀i∈ids,i<wbs.length)→zdf (wbs++more) ids=zdf wbs ids
 |[],_=>rfl
 |i::c,a=>by
  have d:=a i (by simp);have b:=zbv (wbs:=wbs) (more:=more) (ids:=c) fun e f=>a e (by simp [f])
  simp only [zdf,List.map_cons,List.cons.injEq] at b ⊢;exact ⟨by simp [List.getD,List.getElem?_append_left d],b⟩
theorem QX.more (c:QX b W H wbs D)(more:List Nat)(d:∀e∈D,∀f∈e,f<wbs.length):QX b W H (wbs++more) D:=by
 obtain ⟨g,h,i,j⟩:=c;exact ⟨g,h,i,fun k l a=>by rw [zbv (d _ (List.getElem_mem a))];exact j k l a⟩
def zqE (B c:Nat)(d:Value×Value×Value×Value×Value×Value×Value)(wbs:List Nat)(r:LS×Nat)(W:World)(e:Ending)(a:World):Prop:=
 ∃b,e= .returned (.pointer (some ⟨b,0,none⟩))∧LMod2 B W a∧(∃f,LAt B c d r.1.ops r.1.full f a)∧WTab B (wbs++[b]) r.1.wt a∧r.2=wbs.length
theorem LAt.all (a:LAt B L M ops full h W):
  W.cell? ⟨L,0,none⟩=some M.1∧W.cell? ⟨L,1,none⟩=some M.2.1∧W.cell? ⟨L,2,none⟩=some M.2.2.1∧W.cell? ⟨L,3,none⟩=some M.2.2.2.1∧W.cell? ⟨L,4,none⟩=some h∧W.cell? ⟨L,5,none⟩=some M.2.2.2.2.1∧W.cell? ⟨L,6,none⟩=some M.2.2.2.2.2.1∧W.cell? ⟨L,7,none⟩=some M.2.2.2.2.2.2∧W.cell? ⟨L,8,none⟩=some (.bool full):=by
 have b:=a.blk;refine ⟨?_,?_,?_,?_,?_,?_,?_,?_,?_⟩<;>simp [World.cell?,b]
theorem GAt.nodeV (l:GAt B w E h F G g J K)(k:Nat)(m:k<g.nodes.length):
  ∃a f b c d e,E= .slice (some ⟨a,0,none⟩) g.nodes.length f∧a<w.heap.size∧w.ownsRow B 3 1 (.slice b g.nodes[k].shape.length c) g.nodes[k].shape.length (ints g.nodes[k].shape)∧w.ownsRow B 3 1 (.slice d g.nodes[k].args.length e) g.nodes[k].args.length (ints g.nodes[k].args)∧
   (w.cell? ⟨a,k * 7,none⟩=some (.int .i64 g.nodes[k].kind)∧w.cell? ⟨a,k * 7+1,none⟩=some (.slice b g.nodes[k].shape.length c)∧w.cell? ⟨a,k * 7+2,none⟩=some (.slice d g.nodes[k].args.length e)∧w.cell? ⟨a,k * 7+3,none⟩=some (.int .i64 g.nodes[k].party)∧w.cell? ⟨a,k * 7+4,none⟩=some (.int .i64 g.nodes[k].input)∧
   w.cell? ⟨a,k * 7+5,none⟩=some (.int .i64 g.nodes[k].k)∧w.cell? ⟨a,k * 7+6,none⟩=some (.slice none 0 0)):=by
 obtain ⟨a,f,q,r,n,o,i,j,p⟩:=l.node k m;obtain ⟨b,c,rfl,-,-⟩:=qg i;obtain ⟨d,e,rfl,-,-⟩:=qg j;exact ⟨a,f,b,c,d,e,n,o,i,j,p⟩
variable {s:LS}
theorem zgt {n:MNode}{d:Int}{i a b:Nat}(e:n.kind=6)(c:n.args=[(a:Int),(b:Int)])(f:a<g.nodes.length)(h:b<g.nodes.length)(j:g.nodes[a].elems=[])(k:g.nodes[b].elems=[]):
  zaW g D s n d i=zdy (zah s (lAt D n 0 i) (lAt D n 1 i) g.nodes[a] g.nodes[b] 0 0):=by
 have l:zbq g (n.args.getD 0 0)=g.nodes[a]:=by rw [c];simp [zbq,List.getD,f]
 have m:zbq g (n.args.getD 1 0)=g.nodes[b]:=by rw [c];simp [zbq,List.getD,h]
 unfold zaW;rw [e];simp only [l,m,j,k];simp
theorem zgB {go:Value}(X:LAt B L (E,go,F,G,H,O,Q) s.ops s.full h W)(bf:WTab B wbs s.wt W)(bg:QX B W H wbs D)
     (u:GAt R W E go F G g J K) (n:MNode) (ad:n.kind=6) (bh bi:Value) (bD:∃bE bF ae,bh= .slice bE bF ae) (af:W.ownsRow R 3 1 bi n.args.length (ints n.args)) (k l:Nat) (o:n.args=[(k:Int),(l:Int)])
  (bG:k<D.length) (bH:l<D.length) (ag:k<g.nodes.length) (ah:l<g.nodes.length) (ai:g.nodes[k].kind≠2) (aj:g.nodes[l].kind≠2) (i:Nat) (ak:D[k].length=1∨i<D[k].length) (al:D[l].length=1∨i<D[l].length)
  (Y:D.length≤1000000∧D[k].length≤1000000∧D[l].length≤1000000) (am:lAt D n 0 i<wbs.length) (an:lAt D n 1 i<wbs.length) (ao:0≤(s.wt.getD (lAt D n 0 i) (0,0)).1) (ap:0≤(s.wt.getD (lAt D n 1 i) (0,0)).1) (bj:Int):
  Calls prog 180 #[.pointer (some ⟨L,0,none⟩),ndV n bh bi (.slice none 0 0),.int .i64 bj,.int .i64 i] W (zqE B L (E,go,F,G,H,O,Q) wbs (zaW g D s n bj i) W):=by
 rw [zgt ad o ag ah (u.el _ (List.getElem_mem ag)) (u.el _ (List.getElem_mem ah))];obtain ⟨aq,ae,ar,au,av,aw,bk,bI,-,-,ax⟩:=u.nodeV k ag;obtain ⟨bJ,bK,ay,az,aA,aB,aC,-,-,-,aD⟩:=u.nodeV l ah;obtain ⟨rfl,rfl⟩:aq=bJ∧ae=bK:=by rw [bk] at aC;simpa using aC
 clear aC;subst bk;have cv:=Z u;have aE:=Z X;have bL:=Z bf;have bM:=Z bg;have bl:=X.blt;obtain ⟨v,aF⟩:∃v,lAt D n 0 i=v:=⟨_,rfl⟩;obtain ⟨w,aG⟩:∃w,lAt D n 1 i=w:=⟨_,rfl⟩;rw [aF] at am ao ⊢;rw [aG] at an ap ⊢;have bN:=Z aF;have bO:=Z aG;have bm:=Z (And.intro ao ap);have bP:=Z (show wbs.getD v 0=wbs[v] by simp [List.getD,am]);have bQ:=Z (show wbs.getD w 0=wbs[w] by simp [List.getD,an]);have cw:=Z (And.intro ak al);obtain ⟨y,z,A,rfl⟩:=bD;have aH:=Z af;have cx:=Z o;have C:n.args.length=2:=by rw [o];rfl
 obtain ⟨cy,I,rfl,-,aI⟩:=qg af;obtain ⟨m,rfl,-,bn,M⟩:=aI (by omega);have bo:W.cell? ⟨m,0,none⟩=some (.int .i64 (k:Int)):=by rw [M 0 (by omega),o];rfl
 have bp:W.cell? ⟨m,1,none⟩=some (.int .i64 (l:Int)):=by rw [M 1 (by omega),o];rfl
 obtain ⟨cz,bR,bS,N,P,S,bT⟩:=n;simp only at ad C;subst ad;simp only at o aH aI M;rw [C] at aH M;have bU:=X.lt;have aJ:=fun (q:World) (r:Below W.heap.size W q)=>zon (aE.later r) (bM.lmod (LMod2.below r bl)) ⟨6,bR,bS,N,P,S,bT⟩ (.slice y z A) (.slice (some ⟨m,0,none⟩) 2 I) (.slice none 0 0) ⟨_,_,_,rfl⟩ ⟨_,_,_,rfl⟩ (by
  have:=Arr.of_owns (Below.owns aH r);simpa [C] using this)
 have bV:=Z (fun q r=>aJ q r 0 i k (by simp [C]) (by simp [o]) bG ak ⟨Y.1,Y.2.1⟩);have bW:=Z (fun q r=>aJ q r 1 i l (by simp [C]) (by simp [o]) bH al ⟨Y.1,Y.2.2⟩);clear aJ;obtain ⟨d,bq⟩:∃d,g.nodes[k]=d:=⟨_,rfl⟩;obtain ⟨e,br⟩:∃e,g.nodes[l]=e:=⟨_,rfl⟩;rw [bq] at ax ai ⊢;rw [br] at aD aj ⊢;have bs:=Z (And.intro ai aj);obtain ⟨bt,aK⟩:∃bt,zah s v w d e 0 0=bt:=⟨_,rfl⟩;have bX:=Z aK;rw [aK];have bY:=Z ax;have bZ:=Z aD;have bu:=Z (And.intro bo bp);obtain ⟨aL,-⟩:=aE.all;simp only at aL;have b0:=Z aL;have t:=(Below.refl W.heap.size W).alloc (Nat.le_refl _) (.cells #[.int .i64 6,.slice y z A,.slice (some ⟨m,0,none⟩) 2 I,.int .i64 N,.int .i64 P,.int .i64 S,.slice none 0 0] 154);have aM:=Z t;have b1:=Z (heap_alloc_new W (.cells #[.int .i64 6,.slice y z A,.slice (some ⟨m,0,none⟩) 2 I,.int .i64 N,.int .i64 P,.int .i64 S,.slice none 0 0] 154));have bv:(W.alloc (.cells #[.int .i64 6,.slice y z A,.slice (some ⟨m,0,none⟩) 2 I,.int .i64 N,.int .i64 P,.int .i64 S,.slice none 0 0] 154)).heap.size=W.heap.size+1:=by simp
 have bw:=Z bv;have cA:(0:Int)≤(k:Int):=by omega
 have cB:(0:Int)≤(l:Int):=by omega
 have cC:(k:Int)<(g.nodes.length:Int):=by omega
 have cD:(l:Int)<(g.nodes.length:Int):=by omega
 clear X bf bg u af aI M ax aD bo bp aL bq br ai aj ao ap aF aG ak al aK o t bv;have bx:∀(T:LS×Int),zdy T=({T.1 with wt:=T.1.wt++[(T.2,-1)]},T.1.wt.length):=fun _=>rfl
 have b2:=Z bx;clear bx;have b3:=Z (show min (i:Int) (max 0 (IntKind.i64.wrap (-1)))=0 by rw [show IntKind.i64.wrap (-1)= -1 from rfl];omega);have b4:=Z (show (if (if (0:Int)<IntKind.i64.wrap (-1) then IntKind.i64.wrap (-1) else 0)<(i:Int) then (if (0:Int)<IntKind.i64.wrap (-1) then IntKind.i64.wrap (-1) else 0) else (i:Int))=0 by
  rw [show IntKind.i64.wrap (-1)= -1 from rfl];simp)
 go_enter func180,ntmps180;go_upto_region 10 with (go_at_call 211;refine (bV _ aM).mono ?_;rw [bN.out,bP.out];rintro aN f ⟨rfl,t⟩;have aO:=(t.block W.heap.size (by rw [bw.out];omega)).trans b1;obtain ⟨b5,b6,b7,b8,b9,ca,cb⟩:=c7 aO;have cc:=Z aO;have cd:=t.size;rw [bw.out] at cd;have x:=Z (aM.trans (t.mono aM.size));clear aO t);have ce:=(x.cell (p:=⟨L,0,none⟩) bU).trans b0;have cf:=(x.cell (p:=⟨m,0,none⟩) bn).trans bu.1;have cg:=(x.cell (p:=⟨m,1,none⟩) bn).trans bu.2;obtain ⟨aP,aQ,aR,aS,aT,aU,aV⟩:=bY.out;obtain ⟨aW,aX,aY,aZ,a0,a1,a2⟩:=bZ.out;have j:=fun ch=>x.cell (p:=⟨aq,ch,none⟩) bI
 replace aP:=(j _).trans aP
 replace aQ:=(j _).trans aQ
 replace aR:=(j _).trans aR
 replace aS:=(j _).trans aS
 replace aT:=(j _).trans aT
 replace aU:=(j _).trans aU
 replace aV:=(j _).trans aV
 replace aW:=(j _).trans aW
 replace aX:=(j _).trans aX
 replace aY:=(j _).trans aY
 replace aZ:=(j _).trans aZ
 replace a0:=(j _).trans a0
 replace a1:=(j _).trans a1
 replace a2:=(j _).trans a2
 have cE:L<f.heap.size:=by omega
 have cF:m<f.heap.size:=by omega
 have cG:aq<f.heap.size:=by omega
 have ci:W.heap.size<f.heap.size:=by omega
 clear j;go_cut [10,11] from 60 to 81 (fun cj ck aa=>∃ab ac:Nat,cj= .pointer (some ⟨ab,0,none⟩)∧ck= .pointer (some ⟨ac,0,none⟩)∧Hid (Below f.heap.size f aa)∧Hid (aa.heap[ab]? =some (.cells #[.int .i64 d.kind,.slice ar d.shape.length au,.slice av d.args.length aw,.int .i64 d.party,.int .i64 d.input,.int .i64 d.k,.slice none 0 0] 154 (0,0)))∧Hid (aa.heap[ac]? =some (.cells #[.int .i64 e.kind,.slice ay e.shape.length az,.slice aA e.args.length aB,.int .i64 e.party,.int .i64 e.input,.int .i64 e.k,.slice none 0 0] 154 (0,0))))
 case first=>
  refine rg (Below f.heap.size f) (Below.refl _ _).drew (fun c=> ?_);refine tb 0 ?_;refine tb 1 ?_;refine tb 2 ?_;refine tb 3 ?_;refine tb 4 ?_;refine tb 5 ?_;refine tb 6 ?_;refine tb 7 ?_;refine tb 8 ?_;refine tb 9 ?_;refine tb 10 ?_;refine tb 11 ?_;refine tb 12 ?_;refine tb 13 ?_;refine tb 14 ?_;refine tb 15 ?_;refine tb 16 ?_;refine tb 17 ?_;refine tb 18 ?_;refine tb 19 ?_;refine tb 20 ?_;refine tb 21 ?_;refine rd2 22 23 (fun b a=> ?_) (fun b a=> ?_)
  ·skip
   go_simp;refine a _ _ (Below.alloc c c.size _) (fun c=>nx ?_);clear a b;refine rd1 23 (fun b a=> ?_);go_simp;refine a _ _ (Below.alloc c c.size _) (fun c=>nx ?_);clear a b;refine rd1 24 (fun b a=> ?_);go_simp;refine a _ _ (qm f _ _).drew (fun c=>nx ?_);clear a b;refine rd1 25 (fun b a=> ?_);go_simp;refine a _ _ (qm f _ _).drew (fun c=>nx ?_);clear a b;refine dn ?_;go_wp2_with fail;go_meet;exact ⟨_,_,rfl,rfl,Z (qm f _ _).drew,Z (heap_alloc2_old f _ _),Z (heap_alloc2_new f _ _)⟩
  ·skip
   go_simp;refine a _ _ (Below.alloc c c.size _) (fun c=>nx ?_);clear a b;refine rd1 22 (fun b a=> ?_);go_simp;refine a _ _ (Below.alloc c c.size _) (fun c=>nx ?_);clear a b;refine rd1 24 (fun b a=> ?_);go_simp;refine a _ _ (qm f _ _).drew (fun c=>nx ?_);clear a b;refine rd1 25 (fun b a=> ?_);go_simp;refine a _ _ (qm f _ _).drew (fun c=>nx ?_);clear a b;refine dn ?_;go_wp2_with fail;go_meet;exact ⟨_,_,rfl,rfl,Z (qm f _ _).drew,Z (heap_alloc2_new f _ _),Z (heap_alloc2_old f _ _)⟩
 case rest=>
 rename World=>aa
 obtain ⟨ab,ac,rfl,rfl,bz,a3,a4⟩:=hcut;have a5:=Z (x.trans (bz.mono x.size));have a6:=Z ((bz.block _ ci).trans cc);clear ce cf cg aP aQ aR aS aT aU aV aW aX aY aZ a0 a1 a2 b5 b6 b7 b8 b9 ca cb;go_upto_region 11 with fail;have cl:=And.intro (c7 a6) (And.intro (c7 a3) (c7 a4));refine rg (fun q=>C7 q W.heap.size (.int .i64 6) (.slice y z A) (.slice (some ⟨m,0,none⟩) 2 I) (.int .i64 N) (.int .i64 P) (.int .i64 S) (.slice none 0 0)∧C7 q ab (.int .i64 d.kind) (.slice ar d.shape.length au) (.slice av d.args.length aw) (.int .i64 d.party) (.int .i64 d.input) (.int .i64 d.k) (.slice none 0 0)∧C7 q ac (.int .i64 e.kind) (.slice ay e.shape.length az) (.slice aA e.args.length aB) (.int .i64 e.party) (.int .i64 e.input) (.int .i64 e.k) (.slice none 0 0)) cl (fun c=> ?_);refine tk 0 ?_;refine tk 1 ?_;refine tk 2 ?_;refine tk 3 ?_;refine tk 4 ?_;refine tk 6 ?_;refine tk 7 ?_;refine tk 8 ?_;refine tk 9 ?_;refine tk 10 ?_;refine tk 11 ?_;refine tk 12 ?_;refine tk 13 ?_;refine tk 14 ?_;refine tk 15 ?_;refine tk 16 ?_;refine tk 17 ?_;refine tk 18 ?_;refine tk 19 ?_;refine tk 20 ?_;refine tk 21 ?_;refine rd1 5 (fun b a=> ?_)
 (go_simp;go_at_call 211;refine (bW _ a5.drew).mono ?_;rw [bO.out,bQ.out];rintro aN cH ⟨rfl,U⟩;have a7:=(U.block _ (qd a6)).trans a6;have a8:=(U.block _ (qd a3)).trans a3;have a9:=(U.block _ (qd a4)).trans a4;have cm:=And.intro (c7 a7) (And.intro (c7 a8) (c7 a9));have cn:=Z a7;have co:=Z a8;have cp:=Z a9;have ba:=Z (a5.drew.trans (U.mono a5.size));clear U a7 a8 a9;(try dsimp only))
 refine a _ _ cm (fun c=>nx ?_);clear a b;refine rd1 22 (fun b a=> ?_)
 (go_simp;go_at_call 204;(first | rw [b4.out] | rw [b3.out]);refine (zgF (aE.later ba) (bL.later ba) v w am an bm.1 bm.2 d e (.slice ar d.shape.length au) (.slice av d.args.length aw) (.slice none 0 0) (.slice ay e.shape.length az) (.slice aA e.args.length aB) (.slice none 0 0) bs.1 bs.2 0 0 ⟨⟨_,_,_,rfl⟩,⟨_,_,_,rfl⟩,⟨_,_,_,rfl⟩,⟨_,_,_,rfl⟩,⟨_,_,_,rfl⟩,⟨_,_,_,rfl⟩⟩).mono ?_;rw [bX.out];rintro aN cI ⟨rfl,V,⟨cJ,bA⟩,bB⟩;have bb:=V.ty _ _ _ _ cn (by decide) (by decide) (by decide);have bc:=V.ty _ _ _ _ co (by decide) (by decide) (by decide);have bd:=V.ty _ _ _ _ cp (by decide) (by decide) (by decide);have cq:=And.intro (c7 bb) (And.intro (c7 bc) (c7 bd));have cr:=Z bb;have cs:=Z bc;have ct:=Z bd;have cu:=Z V;have be:=Z bA;have bC:=Z bB;clear bb bc bd V bA bB;(try dsimp only))
 refine a _ _ cq (fun c=>nx ?_);clear a b;refine rd1 23 (fun b a=> ?_)
 (go_simp;go_at_call 174;refine (zfK _ _).mono ?_;rintro aN cK ⟨rfl,rfl⟩;(try dsimp only))
 refine a _ _ (And.intro (c7 (QH _ cr)) (And.intro (c7 (QH _ cs)) (c7 (QH _ ct)))) (fun c=>nx ?_);clear a b;refine tk 24 ?_;refine dn ?_;go_wp2_with fail;go_ret;rw [b2.out];refine ⟨_,rfl,((LMod2.below ba bl).trans cu).trans (LMod2.below ((Below.refl _ _).alloc (Nat.le_refl _) _) be.blt),⟨_,be.alloc _⟩,bC.new be.blt _,bC.len.symm⟩
theorem WTab.lmod2 (a:WTab B wbs wt W)(b:LMod B W A):WTab B wbs wt A:=a.lmod b
theorem LMod2.app {e:Option Nat}(a:LMod2 B W T)(f:T.grownBy N e)(g:∀b,e=some b→W.heap.size≤b)(h:B≤W.heap.size):LMod2 B W N:=
 ⟨a.low.grown f (Nat.le_trans h a.low.size) (fun b i=>Nat.le_trans h (g b i)),fun c j k l d m n o=>(f.block c (Nat.lt_of_lt_of_le (qd d) a.low.size) (fun p=>by have:=g c p.symm;have:=qd d;omega)).trans (a.ty c j k l d m n o)⟩
theorem LAt.app (a:LAt B L M ops full h W)(c:W.ownsRow b 251 1 v n I)(d:W.grownBy N v.ownBlock):LAt B L M ops full h N:=
 ⟨(d.block L a.lt (fun e=>yz c a.blk (by decide) e.symm)).trans a.blk,qp a.own d (Off.owned c (by decide)),a.hB,a.len⟩
theorem WTab.app (a:WTab B wbs wt W)(e:W.ownsRow b 251 1 v n I)(f:W.grownBy N v.ownBlock):WTab B wbs wt N:=
 ⟨a.len,fun c d=>(f.block _ (qd (a.cell c d)) (fun g=>yz e (a.cell c d) (by decide) g.symm)).trans (a.cell c d),a.hB,a.nd⟩
theorem zlJ (wbs:List Nat)(b:Nat)(ids:List Nat)(a:∀c∈ids,c<wbs.length):zdf wbs ids++[.pointer (some ⟨b,0,none⟩)]=zdf (wbs++[b]) (ids++[wbs.length]):=by
 have:=zbv (more:=[b]) a;simp only [zdf,List.map_append] at this ⊢;rw [this];simp [List.getD]
theorem zkj:(prog.info? 251).map (fun a=>(a.zero,a.size,a.bytes))=some (some (.pointer none),1,8):=by kernel_rfl
theorem ZF (s:List Int):0≤qN s∧qN s≤32:=by
 have a:=zbV s 1 (by omega) (by omega);unfold qN
 split
 ·omega
 ·split
  ·omega
  ·exact a
theorem zfG:∀(a:List (List Int)) (b:Int) (c:Nat) (_:c<a.length),0≤b→0≤(ZE b a).getD c 0∧(ZE b a).getD c 0≤b+32 * a.length
 |d::a,b,0,_,e=>by simp [ZE];omega
 |d::a,b,c+1,f,e=>by
  have g:=ZF d;have:=zfG a (b+qN d) c (by simpa using f) (by omega);simp only [ZE,List.getD_cons_succ,List.length_cons] at this ⊢;omega
theorem zer:∀(a:List (List Int)) (b:Int),(ZE b a).length=a.length
 |[],_=>rfl
 |c::a,b=>by simp [ZE,zer a]
theorem znh {base:Nat}{e:TypeId}{a c m:Nat}(b:w.ownsRow base e 1 (.slice (some ⟨a,0,none⟩) n c) m I)(i:Nat)(d:i<m):w.cell? ⟨a,i,none⟩=I[i]? :=by
 obtain ⟨f,j,g,-,-,-,h,-,-⟩:=zm b i d;obtain ⟨rfl,-⟩:a=f∧_:=by simpa using g
 exact h
structure LList (B L:Nat)(G:Value×Value×Value×Value×Value×Value×Value)(wbs:List Nat)(s:LS)(ids:List Nat)(W wr:World)(more:List Nat)(ov v:Value):Prop where
 mod:LMod2 B W wr
 at_:LAt B L G s.ops s.full ov wr
 tab:WTab B (wbs++more) s.wt wr
 own:wr.ownsRow W.heap.size 251 1 v ids.length (zdf (wbs++more) ids)
 ids:∀i∈ids,i<(wbs++more).length
 hB:B≤W.heap.size
theorem LList.push {s':LS}{ids:List Nat}{c:World}{more:List Nat}{f g:Value}(a:LList B L M wbs s ids W T more h v)(i:LMod2 B T c)(l:LAt B L M s'.ops s'.full f c)(m:WTab B (wbs++more++[b]) s'.wt c)
  (e:c.grownBy N v.ownBlock) (j:N.ownsRow W.heap.size 251 1 g (ids.length+1) (zdf (wbs++more) ids++[.pointer (some ⟨b,0,none⟩)])):
  LList B L M wbs s' (ids++[(wbs++more).length]) W N (more++[b]) f g:=by
 have k:=i.owns a.own (by decide) (by decide) (by decide);rw [zlJ _ _ _ a.ids] at j;refine ⟨(a.mod.trans i).app e (fun n o=>(a.own.lt n o).1) a.hB,l.app k e,by rw [←List.append_assoc];exact m.app k e,by rw [←List.append_assoc,List.length_append];exact j,fun p q=> ?_,a.hB⟩;rw [←List.append_assoc,List.length_append];rcases List.mem_append.1 q with d | d
 ·have:=a.ids p d;omega
 ·simp only [List.mem_cons,List.not_mem_nil,or_false] at d;rw [d];simp
theorem LList.start (a:LAt B L M s.ops s.full h W)(c:WTab B wbs s.wt W)(b:Below W.heap.size W T):LList B L M wbs s [] W T [] h (.slice none 0 0):=
 ⟨LMod2.below b a.blt,a.later b,by rw [List.append_nil];exact c.later b,World.ownsRow_nil _ _ _ _,fun _ a=>absurd a (by simp),a.blt⟩
def ziJ (B b:Nat)(c:Value×Value×Value×Value×Value×Value×Value)(wbs:List Nat)(r:LS×List Nat)(W:World)(e:Ending)(d:World):Prop:=
 ∃a f g,e= .returned a∧LList B b c wbs r.1 r.2 W d f g a
theorem zhS {go:Value}(r:LAt B L (E,go,F,G,H,O,Q) s.ops s.full h W)(ag:WTab B wbs s.wt W)
   (g:MGraph) (n:MNode) (ah:n.kind=1) (aA aB:Value) (z:W.ownsRow R 3 1 aA n.shape.length (ints n.shape)) (aC:∃aT aU,aB= .slice aT n.args.length aU) (a j:Nat) (o:n.party=(a:Int)) (bn:a<2) (d:n.input=(j:Int)) (ai:Value) (aj:ai=if a=0 then O else Q)
  (A:W.ownsRow R 3 1 ai (g.ins n.party).length (ints (ZE 0 (g.ins n.party)))) (t:j<(g.ins n.party).length) (aD:(g.ins n.party).length≤8) (aV:Int):
  Calls prog 122 #[.pointer (some ⟨L,0,none⟩),ndV n aA aB (.slice none 0 0),.int .i64 aV] W (ziJ B L (E,go,F,G,H,O,Q) wbs (zcs g D s n) W):=by
 obtain ⟨ak,l⟩:∃ak,zcs g D s n=ak:=⟨_,rfl⟩;rw [l];unfold zcs at l;rw [if_pos ah] at l;obtain ⟨bo,m,C,bp,bq,I,br⟩:=n;simp only at ah z aC o d A t aD l;subst ah o d;rw [Int.toNat_natCast] at l;obtain ⟨e,al⟩:∃e,(ZE 0 (g.ins (a:Int))).getD j 0=e:=⟨_,rfl⟩;have J:=zfG (g.ins (a:Int)) 0 j t (Int.le_refl _);have aE:=zer (g.ins (a:Int)) 0;rw [al] at J l;have am:∀(aF:List MOp) (aG:Bool) (h:Value) (i:World),LAt B L (E,go,F,G,H,O,Q) aF aG h i→i.cell? ⟨L,6+a,none⟩=some ai:=fun aF aG h i an=>by
  obtain ⟨-,-,-,-,-,-,aW,aX,-⟩:=an.all;obtain rfl | rfl:a=0∨a=1:=by omega
  ·rw [aj,if_pos rfl];exact aW
  ·rw [aj,if_neg (by decide)];exact aX
 obtain ⟨K,M,rfl⟩:=aC;obtain ⟨N,P,rfl,-,-⟩:=qg z;obtain ⟨bs,aH,rfl,-,aI⟩:=qg A;obtain ⟨S,rfl,-,bt,-⟩:=aI (by omega);have aJ:∀i:World,i.ownsRow R 3 1 (.slice (some ⟨S,0,none⟩) (g.ins (a:Int)).length aH) (g.ins (a:Int)).length (ints (ZE 0 (g.ins (a:Int))))→i.cell? ⟨S,j,none⟩=some (.int .i64 e):=fun i an=>by
  rw [znh an j t,←al];simp [ints,List.getD,aE,t]
 have T:=Z aJ;have U:=Z A;obtain ⟨V,aK⟩:∃V,(g.ins (a:Int)).length=V:=⟨_,rfl⟩;rw [aK] at t aD T U am J;have aL:=ZF m;obtain ⟨c,X⟩:∃c:Nat,qN m=(c:Int):=⟨(qN m).toNat,by omega⟩;have aY:=Z X;rw [X,Int.toNat_natCast] at l;rw [X] at aL;have aZ:=Z z;have bu:=Z r;have bv:=Z ag;have a0:=Z l;have ao:=Z am;have bw:=r.lt;have bx:=r.blt;have ap:=(Below.refl W.heap.size W).alloc (Nat.le_refl _) (.cells #[.int .i64 1,.slice N m.length P,.slice K C.length M,.int .i64 (a:Int),.int .i64 (j:Int),.int .i64 I,.slice none 0 0] 154);have a1:=Z ap;have a2:=Z (heap_alloc_new W (.cells #[.int .i64 1,.slice N m.length P,.slice K C.length M,.int .i64 (a:Int),.int .i64 (j:Int),.int .i64 I,.slice none 0 0] 154));have a3:=Z (LList.start r ag ap);have bz:0≤e:=J.1;have bA:e≤1000:=by omega
 have bB:(0:Int)≤(a:Int):=by omega
 have bC:(a:Int)<2:=by omega
 have bD:(0:Int)≤(j:Int):=by omega
 have bE:(j:Int)<(V:Int):=by omega
 have bF:c≤32:=by omega
 clear r ag z A aj am aJ l J al ap aI aE aL X aK;go_enter func122,ntmps122;go_upto_region 10 with (go_at_call 34;refine (zB _ m _ (Arr.of_owns (Below.owns aZ a1))).mono ?_;rw [aY.out];rintro Y a4 ⟨rfl,rfl⟩);go_loopg [7,45] c (fun a5 a6 a7 wr=>∃(b:Nat) (p:LS) (aa aM:List Nat) (aN:Value),b≤c∧a5=c-b∧a7= .int .i64 b∧aa.length=b∧Hid (zmS (a:Int) e (c-b) b p aa=ak)∧Hid (LList B L (E,go,F,G,H,O,Q) wbs p aa W wr aM aN a6)∧Hid (wr.heap[W.heap.size]? =some (.cells #[.int .i64 1,.slice N m.length P,.slice K C.length M,.int .i64 (a:Int),.int .i64 (j:Int),.int .i64 I,.slice none 0 0] 154 (0,0))))
 case atStart=>exact ⟨0,_,_,_,_,Nat.zero_le _,rfl,rfl,rfl,a0,a3,a2⟩
 case round=>
  obtain ⟨b,p,aa,aM,aN,bG,bH,rfl,ab,aO,f,aP⟩:=hrel;rename World=>wr
  obtain ⟨a8,a9,rfl,-,-⟩:=qg f.own
  by_cases bI:b<c
  ·obtain ⟨⟨aQ,u⟩,ac⟩:∃ba,lOp p ⟨1,0,0,e+(b:Int),0,(a:Int)⟩=ba:=⟨_,rfl⟩
   have d:=aO.out;rw [show c-b=(c-(b+1))+1 by omega,zmS] at d;simp only [ac,zdy,zpu] at d;have v:=zmT p ⟨1,0,0,e+(b:Int),0,(a:Int)⟩;rw [ac] at v;simp only at v;rw [v,←f.tab.len] at d;have aq:=Z d;have bb:=Z ac;have bJ:=Z v;have bc:=And.intro (c7 aP) (And.intro (ao _ _ _ _ f.at_) (T _ (f.mod.owns U (by decide) (by decide) (by decide))));have bd:B≤wr.heap.size:=f.at_.blt;have be:=Z bd;have bK:IntKind.i64.wrap (e+(b:Int))=e+(b:Int):=by simp only [IntKind.wrap,IntKind.bits,IntKind.signed];simp;omega
   have bL:(b:Int)<(c:Int):=by omega
   clear d ac v;go_upto_region 12 with fail;refine rg (fun i=>(C7 i W.heap.size (.int .i64 1) (.slice N m.length P) (.slice K C.length M) (.int .i64 (a:Int)) (.int .i64 (j:Int)) (.int .i64 I) (.slice none 0 0))∧i.cell? ⟨L,6+a,none⟩=some (.slice (some ⟨S,0,none⟩) V aH)∧i.cell? ⟨S,j,none⟩=some (.int .i64 e)) bc (fun ad=> ?_);refine tk 0 ?_;refine tk 1 ?_;refine tk 2 ?_;refine tk 3 ?_;refine tk 4 ?_;refine tk 5 ?_;refine tk 6 ?_;refine tk 7 ?_;refine tk 8 ?_;refine tk 9 ?_;refine tk 10 ?_;refine tk 11 ?_;refine tk 12 ?_;refine tk 13 ?_;refine tk 14 ?_;refine tk 15 ?_;refine tk 16 ?_;refine tk 17 ?_;refine rd1 18 (fun q k=> ?_)
   (go_simp;go_at_call 124;refine (zgE (s:=p) (f.at_.later (Below.refl _ _).drew) ⟨1,0,0,e+(b:Int),0,(a:Int)⟩).mono ?_;rw [bb.out];rintro Y w ⟨rfl,ar,bM,au⟩;have ae:=(LMod2.below (B:=B) (Below.refl wr.heap.size wr).drew be).trans ar.two;have av:=ae.ty _ _ _ _ aP (by decide) (by decide) (by decide);have x:=And.intro (c7 av) (And.intro (ao _ _ _ _ au) (T _ ((f.mod.trans ae).owns U (by decide) (by decide) (by decide))));have bf:=Z ae;have aw:=Z au;have y:=Z av;have bg:=Z ((f.tab.later (Below.refl _ _).drew).lmod2 ar);clear ae au av ar;(try dsimp only))
   refine k _ _ x (fun ad=>nx ?_);clear k q;refine rd1 19 (fun q k=> ?_)
   (go_simp;go_at_call 174;refine (zfK _ _).mono ?_;rintro Y a4 ⟨rfl,rfl⟩;(try dsimp only))
   refine k _ _ (And.intro (c7 (QH _ y)) (And.intro (Lib.cell?_alloc_some _ x.2.1) (Lib.cell?_alloc_some _ x.2.2))) (fun ad=>nx ?_);clear k q;refine rd1 20 (fun q k=> ?_);go_simp;refine k _ _ (And.intro (c7 (QH _ (QH _ y))) (And.intro (Lib.cell?_alloc_some _ (Lib.cell?_alloc_some _ x.2.1)) (Lib.cell?_alloc_some _ (Lib.cell?_alloc_some _ x.2.2)))) (fun ad=>nx ?_);clear k q;refine rd1 21 (fun q k=> ?_)
   (have af:=bf.trans (LMod2.below ((Below.refl w.heap.size w).alloc (Nat.le_refl _) (ziH (u,-1))) aw.blt);have ax:=af.owns f.own (by decide) (by decide) (by decide);rw [ab] at ax;have bh:=Z af;have aR:=Z ax;have bi:W.heap.size≤(w.alloc (ziH (u,-1))).heap.size:=Nat.le_trans f.mod.low.size af.low.size;clear af ax;refine yU (w0:=w.alloc (ziH (u,-1))) (by rfl) _ _ 249 (by rfl) 251 _ 1 8 underlying249 zkj rfl (by decide) #[.pointer (some ⟨w.heap.size,0,none⟩)] b W.heap.size (.slice a8 b a9) _ aR (by rfl) (by rw [World.size_alloc];rfl) rfl (by simp [Value.oneCell']) bi (by omega) (by unfold maxLen;omega) ?_;intro bN bO bP aS ay;have o:=f.push (s':=⟨aQ.ops,p.wt++[(u,-1)],aQ.full⟩) bh (aw.alloc _) (by have bj:=bg.new aw.blt (u,-1);exact bj) (by rw [ab];exact ay) (by rw [ab];exact aS);have az:=(ay.block _ (qd (QH _ y)) (fun Y=>yz aR (QH _ y) (by decide) Y.symm)).trans (QH _ y);have bk:=And.intro (c7 az) (And.intro (ao _ _ _ _ o.at_) (T _ (o.mod.owns U (by decide) (by decide) (by decide))));have bl:=Z o;have bm:=Z az;clear o az aS ay;(try dsimp only))
   refine k _ _ bk (fun ad=>nx ?_);clear k q;refine tk 22 ?_;refine dn ?_;go_wp2_with fail;go_roundg (c-(b+1))
   case measure=>omega
   case rel=>exact ⟨b+1,_,_,_,_,by omega,rfl,by go_num,by rw [List.length_append,ab];rfl,aq,bl,bm⟩
  ·obtain rfl:b=c:=by omega
   have d:=aO.out;rw [Nat.sub_self,zmS] at d;have aq:=Z d;clear d;go_wp2_with fail;go_ret;exact ⟨_,_,_,rfl,by rw [←aq.out];exact f⟩
theorem zlg {go:Value}(c:LAt B L (E,go,F,G,H,O,Q) s.ops s.full h W)(ae:WTab B wbs s.wt W)(af:QX B W H wbs D)(v:s.full=false)
     (ag:GAt R W E go F G g J K) (n:MNode) (w:n.kind=6) (f:qN n.shape=1) (ah ai:Value) (x:W.ownsRow R 3 1 ah n.shape.length (ints n.shape)) (y:W.ownsRow R 3 1 ai n.args.length (ints n.args)) (d e:Nat) (aj:n.args=[(d:Int),(e:Int)])
  (ak:d<D.length) (al:e<D.length) (am:d<g.nodes.length) (an:e<g.nodes.length) (i:g.nodes[d].kind≠2) (ao:g.nodes[e].kind≠2) (ap:D[d].length=1) (aq:D[e].length=1)
  (aJ:D.length≤1000000) (ar:lAt D n 0 0<wbs.length) (au:lAt D n 1 0<wbs.length) (av:0≤(s.wt.getD (lAt D n 0 0) (0,0)).1) (aw:0≤(s.wt.getD (lAt D n 1 0) (0,0)).1) (j:Int):
  Calls prog 122 #[.pointer (some ⟨L,0,none⟩),ndV n ah ai (.slice none 0 0),.int .i64 j] W (ziJ B L (E,go,F,G,H,O,Q) wbs (zes g D n j 1 0 s []) W):=by
 obtain ⟨z,m⟩:∃z,zes g D n j 1 0 s []=z:=⟨_,rfl⟩;rw [m];obtain ⟨⟨aK,a9⟩,A⟩:∃aL,zaW g D s n j 0=aL:=⟨_,rfl⟩;simp only [zes,v,A,Bool.false_eq_true,if_false,List.nil_append] at m;obtain ⟨o,p,rfl,-,-⟩:=qg x;obtain ⟨q,r,rfl,-,-⟩:=qg y;have C:=fun (I:World) (aM:Value) (M:LMod2 B W I) (aN:LAt B L (E,go,F,G,H,O,Q) s.ops s.full aM I) (aO:WTab B wbs s.wt I)=>
  zgB aN aO (af.lmod M) (ag.lmod M) n w (.slice o n.shape.length p) (.slice q n.args.length r) ⟨_,_,_,rfl⟩ (M.owns y (by decide) (by decide) (by decide)) d e aj ak al am an i ao 0 (.inl ap) (.inl aq) ⟨aJ,by omega,by omega⟩ ar au av aw j
 rw [A] at C;have ax:=Z C;have ay:=Z x;obtain ⟨ba,t,N,P,S,T,bb⟩:=n;simp only at w f ay ax;subst w;have aP:=Z f;have aQ:=Z m;have bc:=c.blt;have U:=(Below.refl W.heap.size W).alloc (Nat.le_refl _) (.cells #[.int .i64 6,.slice o t.length p,.slice q N.length r,.int .i64 P,.int .i64 S,.int .i64 T,.slice none 0 0] 154);have aR:=Z U;have aS:=Z (heap_alloc_new W (.cells #[.int .i64 6,.slice o t.length p,.slice q N.length r,.int .i64 P,.int .i64 S,.int .i64 T,.slice none 0 0] 154));have aT:=Z (LList.start c ae U);have aU:=Z v;clear c ae af ag f x y aj ak al am an i ao ap aq ar au av aw m A C U v;go_enter func122,ntmps122;go_upto_region 5 with (go_at_call 34;refine (zB _ t _ (Arr.of_owns (Below.owns ay aR))).mono ?_;rw [aP.out];rintro V bd ⟨rfl,rfl⟩);go_loopg [7,16] 1 (fun aV aW aX wr=>∃(a:Nat) (u:LS) (k X:List Nat) (az:Value),a≤1∧aV=1-a∧aX= .int .i64 a∧k.length=a∧(a=0→u=s∧X=[]∧k=[])∧(a=1→(u,k)=z)∧Hid (LList B L (E,go,F,G,H,O,Q) wbs u k W wr X az aW)∧Hid (wr.heap[W.heap.size]? =some (.cells #[.int .i64 6,.slice o t.length p,.slice q N.length r,.int .i64 P,.int .i64 S,.int .i64 T,.slice none 0 0] 154 (0,0))))
 case atStart=>exact ⟨0,_,_,_,_,Nat.zero_le _,rfl,rfl,rfl,fun _=>⟨rfl,rfl,rfl⟩,fun c=>absurd c (by decide),aT,aS⟩
 case round=>
  obtain ⟨a,u,k,X,az,be,bf,rfl,bg,Y,aa,b,aA⟩:=hrel;rename World=>wr
  obtain ⟨bh,bi,rfl,-,-⟩:=qg b.own;obtain ⟨bj,bk,bl,bm,bn,bo,bp⟩:=c7 aA
  by_cases i:a=0
  ·subst i
   obtain ⟨rfl,rfl,rfl⟩:=Y rfl;obtain ⟨-,-,-,-,-,-,-,-,aY⟩:=b.at_.all;rw [aU.out] at aY;have aZ:=Z (ax wr _ b.mod b.at_ (by have:=b.tab;rw [List.append_nil] at this;exact this));have f:=b.mod.low.size;clear Y aa;go_wp2_with (first | (at_builtin;refine yS rfl _ _ 249 rfl 251 _ 1 8 underlying249 zkj rfl (by decide) #[_] 0 W.heap.size _ [] aB rfl rfl rfl (by intro bq aC;simp at aC;subst aC;rfl) a0 (by omega) (by unfold maxLen;omega) ?_;intro br bs ab ac _;obtain ⟨bt,bu,rfl,-,-⟩:=ab.form (by omega);have aD:=b.push (s':=aK) a1 a2 (by have a3:=a4.out;rw [List.append_nil];exact a3) ac ab;have aE:=(ac.block _ (qd ad) (fun V=>yz aB ad (by decide) V.symm)).trans ad;have a5:=Z aD;have a6:=Z aE;clear aD aE ab ac) | (go_at_call 180;refine aZ.mono ?_;rintro V bv ⟨bw,rfl,l,⟨bx,aF⟩,aG,aH⟩;have a7:=Z aH;have a1:=Z l;have a2:=Z aF;have a4:=Z aG;have aB:=Z (l.owns b.own (by decide) (by decide) (by decide));have ad:=Z (l.ty _ _ _ _ aA (by decide) (by decide) (by decide));have a0:=Nat.le_trans f l.low.size;clear aH l aF aG));go_roundg 0
   case measure=>omega
   case rel=>exact ⟨1,_,_,_,_,Nat.le_refl _,rfl,by go_num,rfl,fun c=>absurd c (by decide),fun _=>by rw [←aQ.out,a7.out];simp,a5,a6⟩
  ·obtain rfl:a=1:=by omega
   have aI:=aa rfl;have a8:=Z aI;clear Y aa i aI;go_wp2_with fail;go_ret;exact ⟨_,_,_,rfl,by rw [←a8.out];exact b⟩
end Go.Proofs.YtklofgfkaaoipaaGreatDoor
