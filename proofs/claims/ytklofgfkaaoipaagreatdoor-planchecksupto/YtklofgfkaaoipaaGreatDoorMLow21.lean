/-
  WORDS for lower.Lower: what stands between two nodes.
-/
import Derived.Test.YtklofgfkaaoipaaGreatDoorMLowPlain
import Derived.Test.YtklofgfkaaoipaaGreatDoorMDagPlain
import Derived.Test.YtklofgfkaaoipaaGreatDoorMDag3
import Derived.Test.YtklofgfkaaoipaaGreatDoorMMem
import Derived.Test.YtklofgfkaaoipaaGreatDoorMGate
import Derived.Deep.LoopGhost
import Derived.WalkLawsBesides
import Derived.Deep.QuietTactic
import Derived.Deep.DeepCutAuto
import Derived.Shelf.Abstract
import Derived.Test.YtklofgfkaaoipaaGreatDoorMHd
set_option maxHeartbeats 16000000
set_option maxRecDepth 100000
set_option linter.unusedSimpArgs false
set_option linter.unusedVariables false
namespace Go.Proofs.YtklofgfkaaoipaaGreatDoor
open Go.RowKit Go.Proofs.Tryz
variable {W D H:World}{h E F G I J K M:Value}{wbs m:List Nat}{A:List (List Nat)}{L i j:Nat}{s s':LS}{ops:List MOp}
structure LowSt (L:Nat)(nv go i0 i1:Value)(w4:World)(wv f0 f1:Value)(wbs:List Nat)(s:LS)(ws:List (List Nat))(ov:Value)(W:World):Prop where
 at_:LAt L L (nv,go,i0,i1,wv,f0,f1) s.ops s.full ov W
 tab:WTab L wbs s.wt W
 words:QX L W wv wbs ws
 f0:W.ownsRow (L+1) 3 1 f0 1 (ints [0])
 f1:W.ownsRow (L+1) 3 1 f1 1 (ints [0])
 low:Below L w4 W
 ids:∀ids∈ws,∀i∈ids,i<wbs.length
theorem QX.later {b:Nat}(c:QX b W h wbs A)(a:Below W.heap.size W D):QX b D h wbs A:=by
 obtain ⟨d,e,f,g⟩:=c;exact ⟨d,Below.owns e a,f,fun i j k=>Below.owns (g i j k) a⟩
theorem LowSt.later {go:Value}(a:LowSt L E go F G H h I J wbs s A K W)(b:Below W.heap.size W D):LowSt L E go F G H h I J wbs s A K D:=
 ⟨a.at_.later b,a.tab.later b,a.words.later b,Below.owns a.f0 b,Below.owns a.f1 b,a.low.trans (b.mono a.at_.blt),a.ids⟩
theorem LowSt.push {go:Value}{m more:List Nat}{v i:Value}{f:World}{b:List Value}(e:LowSt L E go F G H h I J wbs s A K W)
  (a:LList L L (E,go,F,G,h,I,J) wbs s' m W D more M v) (n:D.ownsRow L 249 1 h b.length b) (z:b.length=A.length) (Q:∀c,∀e:c<b.length,∀g:c<A.length,D.ownsRow L 251 1 b[c] A[c].length (zdf wbs A[c]))
  (o:D.grownBy f h.ownBlock) (R:f.ownsRow L 249 1 i (b.length+1) (b++[v])):
  (f.heap[L]? =some (.cells #[E,go,F,G,M,h,I,J,.bool s'.full] 248 (0,0)))∧LowSt L E go F G H i I J (wbs++more) s' (A++[m]) M (f.setCell ⟨L,5,none⟩ i):=by
 have S:=e.at_.blt;have tb:=(o.block L a.at_.lt (fun j=>yz n a.at_.blk (by decide) j.symm)).trans a.at_.blk;have B:=qh f L 5 i;have k:∀{C:Nat} {q:TypeId} {r:Nat} {t:Value} {N:Nat} {O:List Value},D.ownsRow C q r t N O→q≠249→q≠248→(f.setCell ⟨L,5,none⟩ i).ownsRow C q r t N O:=fun w d g=>
  qp (qp w o (Off.owned n (Ne.symm d))) B (Off.block tb (Ne.symm g))
 refine ⟨tb,⟨by rw [heap_setCell tb];rfl,k a.at_.own (by decide) (by decide),Nat.le_refl _,a.at_.len⟩,⟨a.tab.len,fun u l=> ?_,a.tab.hB,a.tab.nd⟩,⟨b++[v],?_,by simp [z],fun c P T=> ?_⟩,k (a.mod.owns e.f0 (by decide) (by decide) (by decide)) (by decide) (by decide),k (a.mod.owns e.f1 (by decide) (by decide) (by decide)) (by decide) (by decide),?_,?_⟩
 ·have x:=a.tab.cell u l
  have y:=(o.block _ (qd x) (fun j=>yz n x (by decide) j.symm)).trans x;refine (qe (fun j=> ?_) _).trans y;rw [j,tb] at y;simp at y
 ·rw [List.length_append];exact qp R B (Off.block tb (by decide))
 ·rcases Nat.lt_or_ge c b.length with d | d
  ·have g:c<A.length:=by omega
   rw [List.getElem_append_left d];simp only [List.getElem_append_left g];rw [zbv (e.ids _ (List.getElem_mem g))];exact k (Q c d g) (by decide) (by decide)
  ·have U:c=b.length:=by simp at P;omega
   subst U;have V:(b++[v])[b.length]'P=v:=by simp
   have X:(A++[m])[b.length]'T=m:=by simp [z]
   rw [V,X];exact k (qk a.own S) (by decide) (by decide)
 ·exact ((e.low.trans a.mod.low).grown o a.at_.blt (fun r Y=>(n.lt r Y).1)).setCell (p:=⟨L,5,none⟩) (Nat.le_refl _) _
 ·intro t w u l
  rcases List.mem_append.1 w with d | d
  ·have:=e.ids t d u l;rw [List.length_append];omega
  ·simp only [List.mem_cons,List.not_mem_nil,or_false] at d;rw [d] at l;exact a.ids u l
theorem LowSt.op {go:Value}(a:LowSt L E go F G H h I J wbs s A K W)(b:LMod L W D)(c:LAt L L (E,go,F,G,h,I,J) s'.ops s'.full M D)(d:s'.wt=s.wt):LowSt L E go F G H h I J wbs s' A M D:=
 ⟨c,by rw [d];exact a.tab.lmod b,a.words.lmod b.two,b.two.owns a.f0 (by decide) (by decide) (by decide),b.two.owns a.f1 (by decide) (by decide) (by decide),a.low.trans b.low,a.ids⟩
theorem zep:(prog.info? 249).map (fun a=>(a.zero,a.size,a.bytes))=some (some (.slice none 0 0),1,24):=by kernel_rfl
theorem zoy {go:Value}(a:LowSt L E go F G H h I J wbs s A K W){d:Nat}{m n:List Value}(o:GAt d W E go F G exG m n)(k:Nat)(p:k<exG.nodes.length)
  (q:(s,A)=zaY exG (exG.nodes.take k) ⟨[], [],false⟩ []) (b c:Value) (e:W.ownsRow d 3 1 b exG.nodes[k].shape.length (ints exG.nodes[k].shape)) (f:W.ownsRow d 3 1 c exG.nodes[k].args.length (ints exG.nodes[k].args)):
  Calls prog 122 #[.pointer (some ⟨L,0,none⟩),ndV exG.nodes[k] b c (.slice none 0 0),.int .i64 1] W (ziJ L L (E,go,F,G,h,I,J) wbs (zcs exG A s exG.nodes[k]) W):=by
 obtain ⟨g,i,j,-,-⟩:=qg f;have r:k<3:=p;obtain rfl | rfl | rfl:k=0∨k=1∨k=2:=by omega
 ·exact zhS a.at_ a.tab exG _ rfl b c (qk e (Nat.zero_le _)) ⟨g,i,j⟩ 0 0 rfl (by decide) rfl I rfl (qk a.f0 (Nat.zero_le _)) (show 0<1 by decide) (show 1≤8 by decide) 1
 ·exact zhS a.at_ a.tab exG _ rfl b c (qk e (Nat.zero_le _)) ⟨g,i,j⟩ 1 0 rfl (by decide) rfl J rfl (qk a.f1 (Nat.zero_le _)) (show 0<1 by decide) (show 1≤8 by decide) 1
 ·obtain ⟨rfl,rfl⟩:=Prod.mk.inj q
  have l:wbs.length=2:=a.tab.len;exact zlg a.at_ a.tab a.words rfl o _ rfl rfl b c e f 0 1 rfl (show 0<2 by decide) (show 1<2 by decide) (show 0<3 by decide) (show 1<3 by decide) (show (1:Int)≠2 by decide) (show (1:Int)≠2 by decide) rfl rfl (show 2≤1000000 by decide) (by rw [l];exact (show 0<2 by decide)) (by rw [l];exact (show 1<2 by decide)) (show (0:Int)≤0 by decide) (show (0:Int)≤1 by decide) 1
theorem zt (o:MOp)(w:World):Calls prog 185 #[.agg o.arr] w fun q r=>q= .returned (.int .i64 (zw o))∧Below w.heap.size w r:=by
 obtain ⟨a,c,d,b,e,f⟩:=o;unfold MOp.arr
 by_cases h:a=1
 ·subst h
  rw [show zw (MOp.mk 1 c d b e f)=0 from rfl];go_enter func185,ntmps185;go_wp2;go_ret;exact ⟨rfl,(Below.refl _ _).alloc (Nat.le_refl _) _⟩
 by_cases i:a=2
 ·subst i
  rw [show zw (MOp.mk 2 c d b e f)=0 from rfl];go_enter func185,ntmps185;go_wp2;go_ret;exact ⟨rfl,(Below.refl _ _).alloc (Nat.le_refl _) _⟩
 by_cases j:a=3
 ·subst j
  rw [show zw (MOp.mk 3 c d b e f)=2 from rfl];go_enter func185,ntmps185;go_wp2;go_ret;exact ⟨rfl,(Below.refl _ _).alloc (Nat.le_refl _) _⟩
 by_cases k:a=4
 ·subst k
  rw [show zw (MOp.mk 4 c d b e f)=2 from rfl];go_enter func185,ntmps185;go_wp2;go_ret;exact ⟨rfl,(Below.refl _ _).alloc (Nat.le_refl _) _⟩
 by_cases l:a=6
 ·subst l
  rw [show zw (MOp.mk 6 c d b e f)=2 from rfl];go_enter func185,ntmps185;go_wp2;go_ret;exact ⟨rfl,(Below.refl _ _).alloc (Nat.le_refl _) _⟩
 by_cases m:a=7
 ·subst m
  rw [show zw (MOp.mk 7 c d b e f)=2 from rfl];go_enter func185,ntmps185;go_wp2;go_ret;exact ⟨rfl,(Below.refl _ _).alloc (Nat.le_refl _) _⟩
 by_cases n:a=9
 ·subst n
  rw [show zw (MOp.mk 9 c d b e f)=2 from rfl];go_enter func185,ntmps185;go_wp2;go_ret;exact ⟨rfl,(Below.refl _ _).alloc (Nat.le_refl _) _⟩
 by_cases p:a=17
 ·subst p
  by_cases g:b=1
  ·subst g
   rw [show zw (MOp.mk 17 c d 1 e f)=1 from rfl];go_enter func185,ntmps185;go_wp2;go_ret;exact ⟨rfl,(Below.refl _ _).alloc (Nat.le_refl _) _⟩
  ·have s:(b != 1)=true:=by simpa using g
   rw [show zw (MOp.mk 17 c d b e f)=2 by unfold zw;rw [if_neg (by simp),if_pos (by simp [g])]];clear g;go_enter func185,ntmps185;go_wp2;go_ret;exact ⟨rfl,(Below.refl _ _).alloc (Nat.le_refl _) _⟩
 have k1:(a==1)=false:=by simpa using h
 have k2:(a==2)=false:=by simpa using i
 have k3:(a==3)=false:=by simpa using j
 have k4:(a==4)=false:=by simpa using k
 have k6:(a==6)=false:=by simpa using l
 have k7:(a==7)=false:=by simpa using m
 have k9:(a==9)=false:=by simpa using n
 have k17:(a==17)=false:=by simpa using p
 rw [show zw (MOp.mk a c d b e f)=1 by unfold zw;rw [if_neg (by simp only;omega),if_neg (by simp only;omega)]];clear h i j k l m n p;go_enter func185,ntmps185;go_wp2;go_ret;exact ⟨rfl,(Below.refl _ _).alloc (Nat.le_refl _) _⟩
def zfH (a:List Nat)(o:MOp):MOp:=⟨o.kind,if 0<zw o then (a.getD o.a.toNat 0:Nat) else o.a,if 1<zw o then (a.getD o.b.toNat 0:Nat) else o.b,o.k,o.c,o.party⟩
theorem zgu {l a:List Nat}{b:List MOp}(c:i<ops.length):ZX ops (i::l) a b=ZX ops l (a.set i b.length) (b++[zfH a ops[i]]):=by
 simp only [ZX,zfH,List.getD_eq_getElem?_getD,List.getElem?_eq_getElem c,Option.getD_some]
theorem zhM (o:MOp):zw o=0∨zw o=1∨zw o=2:=by unfold zw;split;exact .inl rfl;split;exact .inr (.inr rfl);exact .inr (.inl rfl)
theorem zdc:∀(b:List MOp) (a:Nat) (e:a<b.length),(qz b)[a * 6]? =some (.int .i64 b[a].kind)∧(qz b)[a * 6+1]? =some (.int .i64 b[a].a)∧(qz b)[a * 6+2]? =some (.int .i64 b[a].b)∧(qz b)[a * 6+3]? =some (.int .i64 b[a].k)∧(qz b)[a * 6+4]? =some (.int .u64 b[a].c)∧(qz b)[a * 6+5]? =some (.int .i64 b[a].party)
 |f::b,0,_=>by simp [qz]
 |f::b,a+1,e=>by
  have ih:=zdc b a (by simpa using e);have c:∀d,(qz (f::b))[(a+1) * 6+d]? =(qz b)[a * 6+d]? :=fun d=>by
   have:(a+1) * 6+d=a * 6+d+6:=by omega
   rw [this];simp [qz]
  have g:=c 0;simp only [Nat.add_zero] at g;rw [g,c 1,c 2,c 3,c 4,c 5];simpa using ih
theorem Qx {w:World}{g:Nat}{a b c d e f:Value}{t:TypeId}(i:w.heap[g]? =some (.cells #[a,b,c,d,e,f] t (0,0))):
  (w.cell? ⟨g,0,none⟩=some a∧w.cell? ⟨g,1,none⟩=some b∧w.cell? ⟨g,2,none⟩=some c∧w.cell? ⟨g,3,none⟩=some d∧w.cell? ⟨g,4,none⟩=some e∧w.cell? ⟨g,5,none⟩=some f)∧∀h,w.frozen? ⟨g,h,none⟩=false:=by
 refine ⟨⟨?_,?_,?_,?_,?_,?_⟩,fun h=> ?_⟩<;>simp [World.cell?,World.frozen?,i]
theorem zgI (n:Nat)(f:n≤100000)(w:World):(Instr.makeSlice 24 (.int .i64 (n:Int)) (.int .i64 (n:Int))).run prog w= .ok (.slice (some ⟨w.heap.size,0,none⟩) n n) (w.alloc (.cells (ints (List.replicate n 0)).toArray 3)):=by
 obtain ⟨a,b,c,d,e⟩:=info_parts qD;have:=run_make (P:=prog) w 24 3 a (.int .i64 0) underlying24 b c .i64 .i64 (n:Int) (n:Int) (by omega) (by omega) (by rw [e];omega) (by omega);rw [d,Int.toNat_natCast,Nat.mul_one,YS] at this;exact this
theorem zfJ (a3 a4:Value)(ops:List MOp)(j:List Nat)(w:World)(a5:Arr w.heap.size w 6 a3 ops.length (qz ops))(a6:Arr w.heap.size w 1 a4 j.length (ints (j.map Int.ofNat)))(a7:∀f∈j,f<ops.length)
  (U:∀c∈ops,(0<zw c→0≤c.a∧c.a<ops.length)∧(1<zw c→0≤c.b∧c.b<ops.length)) (b5:ops.length≤16384) (b6:j.length≤16384):
  Calls prog 184 #[a3,a4] w fun r a8=>∃ao,r= .returned ao∧a8.ownsRow w.heap.size 61 6 ao (zcq ops j).length (qz (zcq ops j))∧Below w.heap.size w a8:=by
 have bA:=Z a7;have bB:=Z U;obtain ⟨b7,a9,bC,b8,rfl,b9,ba,bb⟩:=a5.slots;obtain ⟨ca,bD,bE,cb,rfl,cc,bc,bd⟩:=a6.slots;have bF:=Z ba;have bG:=Z bb;have bH:=Z bc;have bI:=Z bd;obtain ⟨aE,aJ⟩:∃aE,zcq ops j=aE:=⟨_,rfl⟩;have be:=Z (show ZX ops j (List.replicate ops.length 0) []=aE from aJ);rw [aJ];have bJ:=zgI ops.length (by omega) w;have aK:=Z ((Below.refl w.heap.size w).alloc (Nat.le_refl _) (.cells (ints (List.replicate ops.length 0)).toArray 3));have aF:=Z (show (w.alloc (.cells (ints (List.replicate ops.length 0)).toArray 3)).heap[w.heap.size]? =some (.cells (ints ((List.replicate ops.length 0:List Nat).map Int.ofNat)).toArray 3 (0,0)) by rw [List.map_replicate];exact heap_alloc_new _ _);clear a5 a6 a7 U ba bb bc bd aJ;go_enter func184,ntmps184;go_wp2_with fail;generalize w.alloc (.cells (ints (List.replicate ops.length 0)).toArray 3)=cd at aK aF ⊢;clear bJ;obtain ⟨e,aL⟩:∃e,w.heap.size=e:=⟨_,rfl⟩;rw [aL] at aF ⊢;have aM:w.heap.size≤e:=by omega
 have ce:=Z aL;clear aL;go_loopg [6,15] j.length (fun bK ao bL wr=>∃(aj:Nat) (g:List Nat) (d:List MOp),aj≤j.length∧bK=j.length-aj∧bL= .int .i64 aj∧g.length=ops.length∧d.length=aj∧Hid (ZX ops (j.drop aj) g d=aE)∧Hid (wr.heap[e]? =some (.cells (ints (g.map Int.ofNat)).toArray 3 (0,0)))∧Hid (wr.ownsRow w.heap.size 61 6 ao d.length (qz d))∧Hid (Below w.heap.size w wr))
 case atStart=>exact ⟨0,_, [],Nat.zero_le _,rfl,rfl,List.length_replicate,rfl,be,aF,Z (World.ownsRow_nil _ _ _ _),aK⟩
 case round=>
  obtain ⟨aj,g,d,cf,cg,rfl,aN,bM,bf,N,ap,ad⟩:=hrel;subst bM;rename Value=>ao
  rename World=>wr
  clear aF aK be;have aO:=ad.size;obtain ⟨ch,ci,rfl,-,-⟩:=qg ap
  by_cases aP:d.length<j.length
  ·obtain ⟨rfl,bN⟩:=bH.out (by omega)
   have aG:=bA.out j[d.length] (List.getElem_mem aP);have F:=bf.out;rw [List.drop_eq_getElem_cons aP,zgu aG] at F;have bO:=(ad.cell (p:=⟨bD,bE+d.length,none⟩) bN).trans ((bI d.length (by omega)).trans (by simp [ints,aP]:_=some (Value.int .i64 (j[d.length]:Int))));generalize j[d.length]=f at aG F bO;obtain ⟨rfl,bP⟩:=bF.out (by omega);obtain ⟨bQ,bR,bS,bT,bU,bV⟩:=zdc ops f aG;have U:=bB.out ops[f] (List.getElem_mem aG);have ae:=fun (aQ:Nat) (cj:aQ<6)=>(ad.cell (p:=⟨a9,bC+(f * 6+aQ),none⟩) bP).trans (bG (f * 6+aQ) (by omega))
   have bg:=(ae 0 (by omega)).trans bQ;have bh:=(ae 1 (by omega)).trans bR;have bi:=(ae 2 (by omega)).trans bS;have bj:=(ae 3 (by omega)).trans bT;have bk:=(ae 4 (by omega)).trans bU;have bl:=(ae 5 (by omega)).trans bV;simp only [←Nat.add_assoc,Nat.add_zero] at bg bh bi bj bk bl;have ck:a9<wr.heap.size:=by omega
   have V:=qd N;have cl:(0:Int)≤(f:Int):=by omega
   have cm:(f:Int)<(ops.length:Int):=by omega
   have cn:(d.length:Int)<(j.length:Int):=by omega
   generalize ops[f]=c at U F bg bh bi bj bk bl;obtain ⟨aq,l⟩:∃aq,zw c=aq:=⟨_,rfl⟩;have bm:=zhM c;rw [l] at U bm;obtain ⟨W,af⟩:∃W,zfH g c=W:=⟨_,rfl⟩;rw [af] at F;have aR:=Z F;have aS:=fun w=>zt c w
   rw [l] at aS;have aT:=Z aS;have aU:=Z (heap_alloc_new wr (.cells #[.int .i64 c.kind,.int .i64 c.a,.int .i64 c.b,.int .i64 c.k,.int .u64 c.c,.int .i64 c.party] 61));have ak:=Z ((Below.refl wr.heap.size wr).alloc (Nat.le_refl _) (.cells #[.int .i64 c.kind,.int .i64 c.a,.int .i64 c.b,.int .i64 c.k,.int .u64 c.c,.int .i64 c.party] 61));have aV:wr.heap.size<(wr.alloc (.cells #[.int .i64 c.kind,.int .i64 c.a,.int .i64 c.b,.int .i64 c.k,.int .u64 c.c,.int .i64 c.party] 61)).heap.size:=by simp
   clear ae aS F;rcases bm with rfl | rfl | rfl
   ·have n:W=⟨c.kind,c.a,c.b,c.k,c.c,c.party⟩:=by rw [←af];unfold zfH;rw [l];rfl
    have ar:=Z n;have bn:wr.heap.size≠e:=by omega
    clear af n;go_upto_region 9 with (go_at_call 185;refine (aT _).mono ?_;rintro r al ⟨rfl,t⟩;have h:=Z ((t.block wr.heap.size aV).trans aU);have G:=ak.trans (t.mono ak.size);have s:=Z G;obtain ⟨⟨O,u,P,Q,R,S⟩,-⟩:=Qx h;clear t G);have au:=Z (fun w=>(zt c w));have X:zw c=0:=l;have av:=Z X;clear X;go_upto_region 11 with (go_at_call 185;refine (au _).mono ?_;rw [av.out];rintro r o ⟨rfl,v⟩;have m:=Z ((v.block wr.heap.size (qd h)).trans h);have x:=s.trans (v.mono s.size);have p:=Z x;obtain ⟨⟨H,I,y,J,K,L⟩,-⟩:=Qx m;have T:=(x.block e V).trans N;have aH:=qd T;have aI:=qd m;clear v x T O u P Q R S);have z:=Z ((p.block e V).trans N);obtain ⟨bo,bp⟩:=qV z f (by simp;omega);have Y:=zo z f (d.length:Int);have q:=Z (show (o.setCell ⟨e,f,none⟩ (.int .i64 (d.length:Int))).heap[e]? =some (.cells (ints ((g.set f d.length).map Int.ofNat)).toArray 3 (0,0)) by rw [List.map_set];exact Y);have A:=qp (Below.owns ap p) (qh o e f (.int .i64 (d.length:Int))) (Off.block z (by decide));have B:=Z (Below.set (ad.trans (p.mono aO)) aM f (.int .i64 (d.length:Int)));have C:w.heap.size≤(o.setCell ⟨e,f,none⟩ (.int .i64 (d.length:Int))).heap.size:=by have:=B.size;exact this
    have bq:e≠wr.heap.size:=by omega
    have D:=Z A;have E:=Z ((qe (w:=o) (b:=e) (j:=f) (show wr.heap.size≠e by omega) (.int .i64 (d.length:Int))).trans m);clear Y;go_upto_region 12 with fail;generalize o.setCell ⟨e,f,none⟩ (.int .i64 (d.length:Int))=wc at q D B A C E ⊢;clear H I y J K L;obtain ⟨⟨H,I,y,J,K,L⟩,-⟩:=Qx E;have br:=qd E;go_wp2_with (at_builtin;refine yS rfl _ _ 22 rfl 61 _ 6 48 underlying22 zcw rfl (by decide) #[_,_,_,_,_,_] _ _ _ _ A rfl rfl rfl (by intro aq l;simp at l;rcases l with rfl | rfl | rfl | rfl | rfl | rfl<;>rfl) C (by omega) (by unfold maxLen;omega) ?_;intro bs bt aa ab _;have aw:=Z aa;have ac:=Z ab;clear aa ab);go_roundg (j.length-(d.length+1))
    case measure=>omega
    case rel=>
     refine ⟨d.length+1,g.set f d.length,d++[W],by omega,rfl,by go_num,by rw [List.length_set];exact aN,by simp,aR,Z ((ac.block e (qd q) (fun r=>yz D q (by decide) r.symm)).trans q),?_,Z (B.grown ac C (fun ax ay=>(D.lt ax ay).1))⟩;have az:=aw.out;rw [ar.out];have aA:qz (d++[⟨c.kind,c.a,c.b,c.k,c.c,c.party⟩])=qz d++[.int .i64 c.kind,.int .i64 c.a,.int .i64 c.b,.int .i64 c.k,.int .u64 c.c,.int .i64 c.party]:=by simp [qz]
     rw [List.length_append,aA];exact az
   ·have n:W=⟨c.kind,(g.getD c.a.toNat 0:Nat),c.b,c.k,c.c,c.party⟩:=by rw [←af];unfold zfH;rw [l];rfl
    obtain ⟨aW,aX⟩:=U.1 (by omega);obtain ⟨i,aB⟩:∃i:Nat,c.a=(i:Int):=⟨c.a.toNat,by omega⟩;have aC:(g.map Int.ofNat).getD i 0=((g.getD i 0:Nat):Int):=by simp [List.getD,show i<g.length by omega]
    rw [show c.a.toNat=i by omega] at n;generalize aY:g.getD i 0=k at aC n;have ar:=Z n;have bn:wr.heap.size≠e:=by omega
    clear af n;have bW:(0:Int)≤(i:Int):=by omega
    have bX:(i:Int)<(ops.length:Int):=by omega
    have aZ:=Z aB;clear aY aW aX aB;go_upto_region 9 with (go_at_call 185;refine (aT _).mono ?_;rintro r al ⟨rfl,t⟩;have h:=Z ((t.block wr.heap.size aV).trans aU);have G:=ak.trans (t.mono ak.size);have s:=Z G;obtain ⟨⟨O,u,P,Q,R,S⟩,-⟩:=Qx h;have ag:=(G.block e V).trans N;obtain ⟨aD,-⟩:=qV ag i (by simp;omega);rw [aC] at aD;have a0:=qd ag;have a1:=qd h;have a2:=(Qx h).2 1;rw [aZ.out] at u;clear ag;clear t G);have ah:=Z (show (al.setCell ⟨wr.heap.size,1,none⟩ (.int .i64 (k:Int))).heap[wr.heap.size]? =some (.cells #[.int .i64 c.kind,.int .i64 (k:Int),.int .i64 c.b,.int .i64 c.k,.int .u64 c.c,.int .i64 c.party] 61 (0,0)) by rw [heap_setCell h.out];rfl);have ai:=Z (Below.set s (Nat.le_refl _) 1 (.int .i64 (k:Int)));clear O u P Q R S aD a0 a1 a2;generalize al.setCell ⟨wr.heap.size,1,none⟩ (.int .i64 (k:Int))=bY at ah ai ⊢;have h:=ah;have s:=ai;clear ah ai;have h:=Z h;obtain ⟨⟨O,u,P,Q,R,S⟩,-⟩:=Qx h;have au:=Z (fun w=>(zt {c with a:=(k:Int)} w));have X:zw {c with a:=(k:Int)}=1:=l;have av:=Z X;clear X;go_upto_region 11 with (go_at_call 185;refine (au _).mono ?_;rw [av.out];rintro r o ⟨rfl,v⟩;have m:=Z ((v.block wr.heap.size (qd h)).trans h);have x:=s.trans (v.mono s.size);have p:=Z x;obtain ⟨⟨H,I,y,J,K,L⟩,-⟩:=Qx m;have T:=(x.block e V).trans N;have aH:=qd T;have aI:=qd m;clear v x T O u P Q R S);have z:=Z ((p.block e V).trans N);obtain ⟨bo,bp⟩:=qV z f (by simp;omega);have Y:=zo z f (d.length:Int);have q:=Z (show (o.setCell ⟨e,f,none⟩ (.int .i64 (d.length:Int))).heap[e]? =some (.cells (ints ((g.set f d.length).map Int.ofNat)).toArray 3 (0,0)) by rw [List.map_set];exact Y);have A:=qp (Below.owns ap p) (qh o e f (.int .i64 (d.length:Int))) (Off.block z (by decide));have B:=Z (Below.set (ad.trans (p.mono aO)) aM f (.int .i64 (d.length:Int)));have C:w.heap.size≤(o.setCell ⟨e,f,none⟩ (.int .i64 (d.length:Int))).heap.size:=by have:=B.size;exact this
    have bq:e≠wr.heap.size:=by omega
    have D:=Z A;have E:=Z ((qe (w:=o) (b:=e) (j:=f) (show wr.heap.size≠e by omega) (.int .i64 (d.length:Int))).trans m);clear Y;go_upto_region 12 with fail;generalize o.setCell ⟨e,f,none⟩ (.int .i64 (d.length:Int))=wc at q D B A C E ⊢;clear H I y J K L;obtain ⟨⟨H,I,y,J,K,L⟩,-⟩:=Qx E;have br:=qd E;go_wp2_with (at_builtin;refine yS rfl _ _ 22 rfl 61 _ 6 48 underlying22 zcw rfl (by decide) #[_,_,_,_,_,_] _ _ _ _ A rfl rfl rfl (by intro aq l;simp at l;rcases l with rfl | rfl | rfl | rfl | rfl | rfl<;>rfl) C (by omega) (by unfold maxLen;omega) ?_;intro bs bt aa ab _;have aw:=Z aa;have ac:=Z ab;clear aa ab);go_roundg (j.length-(d.length+1))
    case measure=>omega
    case rel=>
     refine ⟨d.length+1,g.set f d.length,d++[W],by omega,rfl,by go_num,by rw [List.length_set];exact aN,by simp,aR,Z ((ac.block e (qd q) (fun r=>yz D q (by decide) r.symm)).trans q),?_,Z (B.grown ac C (fun ax ay=>(D.lt ax ay).1))⟩;have az:=aw.out;rw [ar.out];have aA:qz (d++[⟨c.kind,(k:Int),c.b,c.k,c.c,c.party⟩])=qz d++[.int .i64 c.kind,.int .i64 (k:Int),.int .i64 c.b,.int .i64 c.k,.int .u64 c.c,.int .i64 c.party]:=by simp [qz]
     rw [List.length_append,aA];exact az
   ·have n:W=⟨c.kind,(g.getD c.a.toNat 0:Nat),(g.getD c.b.toNat 0:Nat),c.k,c.c,c.party⟩:=by rw [←af];unfold zfH;rw [l];rfl
    obtain ⟨aW,aX⟩:=U.1 (by omega);obtain ⟨i,aB⟩:∃i:Nat,c.a=(i:Int):=⟨c.a.toNat,by omega⟩;have aC:(g.map Int.ofNat).getD i 0=((g.getD i 0:Nat):Int):=by simp [List.getD,show i<g.length by omega]
    rw [show c.a.toNat=i by omega] at n;generalize aY:g.getD i 0=k at aC n;obtain ⟨bZ,b0⟩:=U.2 (by omega);obtain ⟨M,bu⟩:∃M:Nat,c.b=(M:Int):=⟨c.b.toNat,by omega⟩;have bv:(g.map Int.ofNat).getD M 0=((g.getD M 0:Nat):Int):=by simp [List.getD,show M<g.length by omega]
    rw [show c.b.toNat=M by omega] at n;generalize b1:g.getD M 0=am at bv n;have ar:=Z n;have bn:wr.heap.size≠e:=by omega
    clear af n;have bW:(0:Int)≤(i:Int):=by omega
    have bX:(i:Int)<(ops.length:Int):=by omega
    have aZ:=Z aB;clear aY aW aX aB;have co:(0:Int)≤(M:Int):=by omega
    have cp:(M:Int)<(ops.length:Int):=by omega
    have b2:=Z bu;clear b1 bZ b0 bu;go_upto_region 9 with (go_at_call 185;refine (aT _).mono ?_;rintro r al ⟨rfl,t⟩;have h:=Z ((t.block wr.heap.size aV).trans aU);have G:=ak.trans (t.mono ak.size);have s:=Z G;obtain ⟨⟨O,u,P,Q,R,S⟩,-⟩:=Qx h;have ag:=(G.block e V).trans N;obtain ⟨aD,-⟩:=qV ag i (by simp;omega);rw [aC] at aD;have a0:=qd ag;have a1:=qd h;have a2:=(Qx h).2 1;rw [aZ.out] at u;clear ag;clear t G);have ah:=Z (show (al.setCell ⟨wr.heap.size,1,none⟩ (.int .i64 (k:Int))).heap[wr.heap.size]? =some (.cells #[.int .i64 c.kind,.int .i64 (k:Int),.int .i64 c.b,.int .i64 c.k,.int .u64 c.c,.int .i64 c.party] 61 (0,0)) by rw [heap_setCell h.out];rfl);have ai:=Z (Below.set s (Nat.le_refl _) 1 (.int .i64 (k:Int)));clear O u P Q R S aD a0 a1 a2;generalize al.setCell ⟨wr.heap.size,1,none⟩ (.int .i64 (k:Int))=bY at ah ai ⊢;have h:=ah;have s:=ai;clear ah ai;have h:=Z h;obtain ⟨⟨O,u,P,Q,R,S⟩,-⟩:=Qx h;have au:=Z (fun w=>(zt {c with a:=(k:Int)} w));have X:zw {c with a:=(k:Int)}=2:=l;have av:=Z X;clear X;go_upto_region 11 with (go_at_call 185;refine (au _).mono ?_;rw [av.out];rintro r o ⟨rfl,v⟩;have m:=Z ((v.block wr.heap.size (qd h)).trans h);have x:=s.trans (v.mono s.size);have p:=Z x;obtain ⟨⟨H,I,y,J,K,L⟩,-⟩:=Qx m;have T:=(x.block e V).trans N;have aH:=qd T;have aI:=qd m;obtain ⟨bw,-⟩:=qV T M (by simp;omega);rw [bv] at bw;have b3:=(Qx m).2 2;rw [b2.out] at y;clear v x T O u P Q R S);have bx:=Z (show (o.setCell ⟨wr.heap.size,2,none⟩ (.int .i64 (am:Int))).heap[wr.heap.size]? =some (.cells #[.int .i64 c.kind,.int .i64 (k:Int),.int .i64 (am:Int),.int .i64 c.k,.int .u64 c.c,.int .i64 c.party] 61 (0,0)) by rw [heap_setCell m.out];rfl);have bz:=Z (Below.set p (Nat.le_refl _) 2 (.int .i64 (am:Int)));clear H I y J K L bw b3 aH aI;generalize o.setCell ⟨wr.heap.size,2,none⟩ (.int .i64 (am:Int))=an at bx bz ⊢;have m:=Z bx;have p:=Z bz;obtain ⟨⟨H,I,y,J,K,L⟩,-⟩:=Qx m;have aH:e<an.heap.size:=by have:=p.size;omega
    have aI:=qd m;have z:=Z ((p.block e V).trans N);obtain ⟨bo,bp⟩:=qV z f (by simp;omega);have Y:=zo z f (d.length:Int);have q:=Z (show (an.setCell ⟨e,f,none⟩ (.int .i64 (d.length:Int))).heap[e]? =some (.cells (ints ((g.set f d.length).map Int.ofNat)).toArray 3 (0,0)) by rw [List.map_set];exact Y);have A:=qp (Below.owns ap p) (qh an e f (.int .i64 (d.length:Int))) (Off.block z (by decide));have B:=Z (Below.set (ad.trans (p.mono aO)) aM f (.int .i64 (d.length:Int)));have C:w.heap.size≤(an.setCell ⟨e,f,none⟩ (.int .i64 (d.length:Int))).heap.size:=by have:=B.size;exact this
    have bq:e≠wr.heap.size:=by omega
    have D:=Z A;have E:=Z ((qe (w:=an) (b:=e) (j:=f) (show wr.heap.size≠e by omega) (.int .i64 (d.length:Int))).trans m);clear Y;go_upto_region 12 with fail;generalize an.setCell ⟨e,f,none⟩ (.int .i64 (d.length:Int))=wc at q D B A C E ⊢;clear H I y J K L;obtain ⟨⟨H,I,y,J,K,L⟩,-⟩:=Qx E;have br:=qd E;go_wp2_with (at_builtin;refine yS rfl _ _ 22 rfl 61 _ 6 48 underlying22 zcw rfl (by decide) #[_,_,_,_,_,_] _ _ _ _ A rfl rfl rfl (by intro aq l;simp at l;rcases l with rfl | rfl | rfl | rfl | rfl | rfl<;>rfl) C (by omega) (by unfold maxLen;omega) ?_;intro bs bt aa ab _;have aw:=Z aa;have ac:=Z ab;clear aa ab);go_roundg (j.length-(d.length+1))
    case measure=>omega
    case rel=>
     refine ⟨d.length+1,g.set f d.length,d++[W],by omega,rfl,by go_num,by rw [List.length_set];exact aN,by simp,aR,Z ((ac.block e (qd q) (fun r=>yz D q (by decide) r.symm)).trans q),?_,Z (B.grown ac C (fun ax ay=>(D.lt ax ay).1))⟩;have az:=aw.out;rw [ar.out];have aA:qz (d++[⟨c.kind,(k:Int),(am:Int),c.k,c.c,c.party⟩])=qz d++[.int .i64 c.kind,.int .i64 (k:Int),.int .i64 (am:Int),.int .i64 c.k,.int .u64 c.c,.int .i64 c.party]:=by simp [qz]
     rw [List.length_append,aA];exact az
  ·have F:=bf.out
   rw [List.drop_of_length_le (by omega)] at F;simp only [ZX] at F;subst F;have b4:=Z ap;go_wp2_with fail;go_ret;exact ⟨_,rfl,b4,ad⟩
def zft (o:MOp):Bool:=o.kind==18||o.kind==19||o.kind==17
def zgw (o:MOp)(j:Nat)(m:List Nat):List Nat:=if zft o then m.set j 1 else m
def zgx (o:MOp)(j:Nat)(m:List Nat):List Nat:=if m.getD j 0=1∧0<zw o then m.set o.a.toNat 1 else m
def zgy (o:MOp)(j:Nat)(m:List Nat):List Nat:=if m.getD j 0=1∧1<zw o then m.set o.b.toNat 1 else m
theorem zhL (a:j<ops.length):zaX ops (j+1) m=zaX ops j (zgy ops[j] j (zgx ops[j] j (zgw ops[j] j m))):=by
 rw [zaX];have:ops.getD j ⟨0,0,0,0,0,0⟩=ops[j]:=by simp [List.getD,a]
 simp only [this,zgw,zgx,zgy,zft,Bool.or_eq_true,beq_iff_eq,or_assoc]
theorem zcM (c:∀a∈m,a=0∨a=1)(j:Nat):∀a∈m.set j 1,a=0∨a=1:=fun a d=>by
 rcases List.mem_or_eq_of_mem_set d with b | b
 ·exact c a b
 ·exact .inr b
theorem zo4 (c:∀b∈m,b=0∨b=1)(j:Nat):m.getD j 0=0∨m.getD j 0=1:=by
 rcases Nat.lt_or_ge j m.length with a | a
 ·rw [List.getD_eq_getElem?_getD,List.getElem?_eq_getElem a];exact c _ (List.getElem_mem a)
 ·left;simp [List.getD,List.getElem?_eq_none a]
theorem zbw (a:m.getD j 0=1):(m.set i 1).getD j 0=1:=by
 simp only [List.getD_eq_getElem?_getD,List.getElem?_set] at a ⊢
 split
 ·split
  ·rfl
  ·rename_i b c
   subst b;rw [List.getElem?_eq_none (by omega)] at a;simp at a
 ·exact a
theorem Qg (m:List Nat)(j:Nat):(m.map Int.ofNat).getD j 0=((m.getD j 0:Nat):Int):=by
 simp only [List.getD_eq_getElem?_getD,List.getElem?_map];cases m[j]? <;>rfl
theorem zla (m:List Nat):∀a∈zaw m,a<m.length:=fun a b=>by simp [zaw] at b;exact b.1
def zct (m:List Nat)(p:Nat):List Nat:=(List.range p).filter fun a=>m.getD a 0==1
theorem zk9 (m:List Nat)(p:Nat):zct m (p+1)=zct m p++if m.getD p 0=1 then [p] else []:=by
 unfold zct;rw [List.range_succ,List.filter_append]
 congr 1
 by_cases a:m.getD p 0=1
 ·rw [if_pos a]
  simp only [List.filter];have:(m.getD p 0==1)=true:=by simpa using a
  rw [this]
 ·rw [if_neg a]
  simp only [List.filter];have:(m.getD p 0==1)=false:=by simpa using a
  rw [this]
theorem zmU (m:List Nat)(p:Nat):(zct m p).length≤p:=by
 unfold zct;exact Nat.le_trans (List.length_filter_le _ _) (by simp)
theorem zhR (ba:Value)(ops:List MOp)(w:World)(aL:Arr w.heap.size w 6 ba ops.length (qz ops))
  (h:∀c∈ops,(0<zw c→0≤c.a∧c.a<ops.length)∧(1<zw c→0≤c.b∧c.b<ops.length)) (bB:ops.length≤16384):
  Calls prog 126 #[ba] w fun L bb=>∃bc,L= .returned bc∧bb.ownsRow w.heap.size 61 6 bc (zcr ops).length (qz (zcr ops))∧Below w.heap.size w bb:=by
 have bC:=Z aL;have bd:=Z h;obtain ⟨bD,be,bE,bF,rfl,cb,bf,bg⟩:=aL.slots;have bG:=Z bf;have bH:=Z bg;obtain ⟨aE,aM⟩:∃aE,zaX ops ops.length (List.replicate ops.length 0)=aE:=⟨_,rfl⟩;have bI:=Z (show zcr ops=zcq ops (zaw aE) by rw [←aM];rfl);rw [bI.out];have bh:=Z aM;have bJ:=zgI ops.length (by omega) w;have m:=Z ((Below.refl w.heap.size w).alloc (Nat.le_refl _) (.cells (ints (List.replicate ops.length 0)).toArray 3));have aF:=Z (show (w.alloc (.cells (ints (List.replicate ops.length 0)).toArray 3)).heap[w.heap.size]? =some (.cells (ints ((List.replicate ops.length 0:List Nat).map Int.ofNat)).toArray 3 (0,0)) by rw [List.map_replicate];exact heap_alloc_new _ _);clear aL h bf bg aM;go_enter func126,ntmps126;go_wp2_with fail;generalize w.alloc (.cells (ints (List.replicate ops.length 0)).toArray 3)=cc at m aF ⊢;clear bJ;obtain ⟨d,aN⟩:∃d,w.heap.size=d:=⟨_,rfl⟩;rw [aN] at aF ⊢;have ae:w.heap.size≤d:=by omega
 have cd:=Z aN;clear aN;go_loopg [4] ops.length (fun aO bK wr=>∃(ay:Nat) (aB:Int) (e:List Nat),aO=ay∧bK= .int .i64 aB∧aB=(ay:Int)-1∧ay≤ops.length∧e.length=ops.length∧(∀aP∈e,aP=0∨aP=1)∧Hid (zaX ops ay e=aE)∧Hid (wr.heap[d]? =some (.cells (ints ((e:List Nat).map Int.ofNat)).toArray 3 (0,0)))∧Hid (Below w.heap.size w wr))
 case atStart=>exact ⟨ops.length,_,_,rfl,rfl,rfl,Nat.le_refl _,List.length_replicate,fun aP bL=> .inl (List.eq_of_mem_replicate bL),bh,aF,m⟩
 case round=>
  obtain ⟨ay,aB,e,ce,rfl,bi,cf,aj,af,aQ,aR,aG⟩:=hrel;rename World=>wr
  clear aF m bh;have bM:=aG.size;have bN:=qd aR;rcases ay with _ | a
  ·have aS:aB= -1:=by omega
   subst aS;have bj:=aQ.out;rw [zaX] at bj;subst bj;clear bi aQ;go_wp2_with fail;go_loopg [6,68] ops.length (fun aO bk bO az=>∃(x:Nat),x≤ops.length∧aO=ops.length-x∧bO= .int .i64 x∧Hid (az.heap[d]? =some (.cells (ints ((e:List Nat).map Int.ofNat)).toArray 3 (0,0)))∧Hid (az.ownsRow (d+1) 3 1 bk (zct e x).length (ints ((zct e x).map Int.ofNat)))∧Hid (Below w.heap.size w az))
   case atStart=>exact ⟨0,Nat.zero_le _,rfl,rfl,aR,Z (World.ownsRow_nil _ _ _ _),aG⟩
   case round=>
    obtain ⟨x,cg,ch,rfl,aH,aA,ak⟩:=hrel;rename World=>az
    rename Value=>bk
    have bl:=qd aH;have bP:=zmU e x;obtain ⟨bQ,bR,rfl,-,-⟩:=qg aA
    by_cases ci:x<ops.length
    ·obtain ⟨aT,-⟩:=qV aH x (by simp;omega)
     rw [Qg] at aT;have cj:(x:Int)<(ops.length:Int):=by omega
     have ck:(0:Int)≤(x:Int):=by omega
     have bm:=Z (zk9 e x);rcases zo4 af x with ap | ap
     ·rw [ap] at aT
      have ag:=Z (show zct e (x+1)=zct e x by rw [bm.out,ap];simp);clear ap;go_wp2_with fail;go_roundg (ops.length-(x+1))
      case measure=>omega
      case rel=>exact ⟨x+1,by omega,rfl,by go_num,aH,by rw [ag.out];exact aA,ak⟩
     ·rw [ap] at aT
      have ag:=Z (show zct e (x+1)=zct e x++[x] by rw [bm.out,ap];simp);clear ap;have bS:d+1≤az.heap.size:=bl;go_wp2_with (at_builtin;refine yS rfl _ _ 24 rfl 3 (.int .i64 0) 1 8 underlying24 qD rfl (by decide) #[_] _ _ _ _ aA rfl rfl rfl (by intro cl n;simp at n;subst n;rfl) bS (by omega) (by unfold maxLen;omega) ?_;intro cm cn aU aV _;obtain ⟨co,aI,rfl,-,-⟩:=aU.form (by omega);have bT:=Z ((aV.block d bl (fun L=>by have:=(aA.lt d L.symm).1;omega)).trans aH);have bU:=Z (ak.grown aV ak.size (fun a bV=>by have:=(aA.lt a bV).1;omega));have bW:=Z aU;clear aU aV);go_roundg (ops.length-(x+1))
      case measure=>omega
      case rel=>exact ⟨x+1,by omega,rfl,by go_num,bT,by rw [ag.out,List.length_append,List.map_append,yd];exact bW,bU⟩
    ·obtain rfl:x=ops.length:=by omega
     have bn:=Z (show zct e ops.length=zaw e by unfold zct zaw;rw [aj]);have aW:=aA.out;rw [bn.out] at aW bP;have bo:=Arr.of_owns aW;have bp:=zfJ (.slice bD ops.length bF) (.slice bQ (zaw e).length bR) ops (zaw e) az (bC.later ak ak.size) bo (fun bX bY=>by have:=zla e bX bY;omega) bd bB (by omega);have bZ:=Z bp;have cp:(zct e ops.length).length=(zaw e).length:=by rw [bn.out]
     clear aW bo bp;go_wp2_with (go_at_call 184;refine bZ.mono ?_;rintro L cq ⟨cr,rfl,bq,br⟩;have b0:=Z bq;have b1:=Z br;clear bq br);go_ret;exact ⟨_,rfl,qk b0 ak.size,ak.trans (b1.mono ak.size)⟩
  ·have aS:aB=(a:Int):=by omega
   subst aS;have aX:a<ops.length:=by omega
   have aJ:=aQ.out;rw [zhL aX] at aJ;obtain ⟨rfl,b2⟩:=bG.out (by omega);obtain ⟨bs,bt,bu,bv,bw,bx⟩:=zdc ops a aX;have h:=bd.out ops[a] (List.getElem_mem aX);have aq:=fun (aY:Nat) (cs:aY<6)=>(aG.cell (p:=⟨be,bE+(a * 6+aY),none⟩) b2).trans (bH (a * 6+aY) (by omega))
   have aZ:=(aq 0 (by omega)).trans bs;have a0:=(aq 1 (by omega)).trans bt;have a1:=(aq 2 (by omega)).trans bu;have a2:=(aq 3 (by omega)).trans bv;have a3:=(aq 4 (by omega)).trans bw;have aI:=(aq 5 (by omega)).trans bx;simp only [←Nat.add_assoc,Nat.add_zero] at aZ a0 a1 a2 a3 aI;have ct:be<wr.heap.size:=by omega
   have cu:(0:Int)≤(a:Int):=by omega
   have cv:(a:Int)<(ops.length:Int):=by omega
   generalize ops[a]=c at h aJ aZ a0 a1 a2 a3 aI;have a4:=zhM c;have ar:=Z aJ;have al:wr.heap.size≠d:=by omega
   have W:=Z (heap_alloc_new wr (.cells #[.int .i64 c.kind,.int .i64 c.a,.int .i64 c.b,.int .i64 c.k,.int .u64 c.c,.int .i64 c.party] 61));have T:=Z ((heap_alloc_old wr (.cells #[.int .i64 c.kind,.int .i64 c.a,.int .i64 c.b,.int .i64 c.k,.int .u64 c.c,.int .i64 c.party] 61) bN).trans aR);have am:=Z (aG.alloc bM (.cells #[.int .i64 c.kind,.int .i64 c.a,.int .i64 c.b,.int .i64 c.k,.int .u64 c.c,.int .i64 c.party] 61));clear aq aJ bi bs bt bu bv bw bx;go_upto_region 6 with fail;generalize wr.alloc (.cells #[.int .i64 c.kind,.int .i64 c.a,.int .i64 c.b,.int .i64 c.k,.int .u64 c.c,.int .i64 c.party] 61)=X at W T am ⊢;generalize wr.heap.size=C at W al ⊢;obtain ⟨⟨o,p,q,r,s,t⟩,-⟩:=Qx W;clear aZ a0 a1 a2 a3 aI;go_cut [34] from 22 to 33 (fun b3 b4=>b3= .bool (zft c)∧b4=X)
   case first=>
    by_cases k18:c.kind=18
    ·have an:zft c=true:=by simp [zft,k18]
     have ag:=Z an;have bz:(c.kind==18)=true:=by simp [k18]
     clear k18 an;go_wp2_with fail;go_meet;exact ⟨by rw [ag.out],rfl⟩
    ·by_cases k19:c.kind=19
     ·have an:zft c=true:=by simp [zft,k19]
      have ag:=Z an;have bz:(c.kind==18)=false:=by simp [k18]
      have b5:(c.kind==19)=true:=by simp [k19]
      clear k18 k19 an;go_wp2_with fail;go_meet;exact ⟨by rw [ag.out],rfl⟩
     ·have an:zft c=(c.kind==17):=by simp [zft,k18,k19]
      have ag:=Z an;have bz:(c.kind==18)=false:=by simp [k18]
      have b5:(c.kind==19)=false:=by simp [k19]
      clear k18 k19 an;go_wp2_with fail;go_meet;exact ⟨by rw [ag.out],rfl⟩
   case rest=>
   obtain ⟨rfl,rfl⟩:=hcut;rename World=>X
   have cw:=qd T;have cx:=qd W;cases aK:zft c
   ·have ao:=Z aK
    clear aK;rcases zo4 af a with au | au
    ·have ah:=Z au
     clear a4 h;go_upto_region 8 with fail;have g:=T;have i:=W;have m:=am;clear o p q r s t;obtain ⟨⟨o,p,q,r,s,t⟩,-⟩:=Qx i;obtain ⟨f,-⟩:=qV g a (by simp;omega);have U:=qd g;have V:=qd i;rw [Qg,au] at f;go_wp2_with fail;go_roundg a
     case measure=>omega
     case rel=>exact ⟨a,(a:Int)-1,e,rfl,by go_num,rfl,by omega,aj,af,Z (by have B:=ar.out;rw [zgw,ao.out,if_neg (by decide),zgx,if_neg (by rw [ah.out];omega),zgy,if_neg (by rw [ah.out];omega)] at B;exact B),g,m⟩
    ·have ah:=Z au
     rcases a4 with n | n | n
     ·have j:=Z n
      rw [n] at h;obtain ⟨D,E,F,G,H,I⟩:=c;simp only at o p q r s t h;clear n h;go_upto_region 8 with fail;have g:=T;have i:=W;have m:=am;clear o p q r s t;obtain ⟨⟨o,p,q,r,s,t⟩,-⟩:=Qx i;obtain ⟨f,-⟩:=qV g a (by simp;omega);have U:=qd g;have V:=qd i;rw [Qg,au] at f;go_upto_region 10 with (go_at_call 185;go_must (refine (zt ⟨D,E,F,G,H,I⟩ _).mono ?_;rw [j.out];rintro L J ⟨rfl,k⟩;have y:=Z ((k.block d U).trans g);have K:=Z ((k.block C V).trans i);have Y:=Z (m.trans (k.mono m.size));obtain ⟨⟨N,O,P,Q,R,S⟩,-⟩:=Qx K;clear k));clear f o p q r s t;obtain ⟨f,-⟩:=qV y a (by simp;omega);rw [Qg,ah.out] at f;have u:=y;have v:=K;have z:=Y;have aa:=qd u;have ab:=qd v;go_wp2_with (go_at_call 185;go_must (refine (zt ⟨D,E,F,G,H,I⟩ _).mono ?_;rw [j.out];rintro L aC ⟨rfl,l⟩;have M:=Z ((l.block d aa).trans u);have ac:=Z (z.trans (l.mono z.size));have ad:=Z ((l.block C ab).trans v);obtain ⟨⟨u0,u1,u2,u3,u4,u5⟩,-⟩:=Qx ad;clear l));go_roundg a
      case measure=>omega
      case rel=>exact ⟨a,(a:Int)-1,e,rfl,by go_num,rfl,by omega,aj,af,Z (by have B:=ar.out;rw [zgw,ao.out,if_neg (by decide),zgx,j.out,if_neg (by omega),zgy,j.out,if_neg (by omega)] at B;exact B),M,ac⟩
     ·have j:=Z n
      rw [n] at h;obtain ⟨D,E,F,G,H,I⟩:=c;simp only at o p q r s t h;have av:=h.1 (by decide);obtain ⟨b,rfl⟩:∃b:Nat,E=(b:Int):=⟨E.toNat,by omega⟩;have a5:(0:Int)≤(b:Int):=by omega
      have a6:(b:Int)<(ops.length:Int):=by omega
      clear n h av;go_upto_region 8 with fail;have g:=T;have i:=W;have m:=am;clear o p q r s t;obtain ⟨⟨o,p,q,r,s,t⟩,-⟩:=Qx i;obtain ⟨f,-⟩:=qV g a (by simp;omega);have U:=qd g;have V:=qd i;rw [Qg,au] at f;go_upto_region 10 with (go_at_call 185;go_must (refine (zt ⟨D,(b:Int),F,G,H,I⟩ _).mono ?_;rw [j.out];rintro L J ⟨rfl,k⟩;have y:=Z ((k.block d U).trans g);have K:=Z ((k.block C V).trans i);have Y:=Z (m.trans (k.mono m.size));obtain ⟨⟨N,O,P,Q,R,S⟩,-⟩:=Qx K;obtain ⟨aw,ax⟩:=qV y b (by simp;omega);have a7:=qd y;clear k));have u:=Z (show (J.setCell ⟨d,b,none⟩ (.int .i64 1)).heap[d]? =some (.cells (ints (((e.set b 1):List Nat).map Int.ofNat)).toArray 3 (0,0)) by rw [List.map_set];exact zo y b 1);have v:=Z (show (J.setCell ⟨d,b,none⟩ (.int .i64 1)).heap[C]? =_ from (qe al _).trans K);have z:=Z (Below.set Y ae b (.int .i64 1));clear aw ax f o p q r s t N O P Q R S;generalize J.setCell ⟨d,b,none⟩ (.int .i64 1)=a8 at u v z ⊢;obtain ⟨⟨N,O,P,Q,R,S⟩,-⟩:=Qx v;obtain ⟨f,-⟩:=qV u a (by simp;omega);have aa:=qd u;rw [Qg,zbw ah.out] at f;have ab:=qd v;go_wp2_with (go_at_call 185;go_must (refine (zt ⟨D,(b:Int),F,G,H,I⟩ _).mono ?_;rw [j.out];rintro L aC ⟨rfl,l⟩;have M:=Z ((l.block d aa).trans u);have ac:=Z (z.trans (l.mono z.size));have ad:=Z ((l.block C ab).trans v);obtain ⟨⟨u0,u1,u2,u3,u4,u5⟩,-⟩:=Qx ad;clear l));go_roundg a
      case measure=>omega
      case rel=>exact ⟨a,(a:Int)-1,(e.set b 1),rfl,by go_num,rfl,by omega,by simp;exact aj,(zcM af _),Z (by have B:=ar.out;rw [zgw,ao.out,if_neg (by decide),zgx,j.out,if_pos ⟨ah,by decide⟩,zgy,j.out,if_neg (by omega)] at B;exact B),M,ac⟩
     ·have j:=Z n
      rw [n] at h;obtain ⟨D,E,F,G,H,I⟩:=c;simp only at o p q r s t h;have av:=h.1 (by decide);obtain ⟨b,rfl⟩:∃b:Nat,E=(b:Int):=⟨E.toNat,by omega⟩;have a5:(0:Int)≤(b:Int):=by omega
      have a6:(b:Int)<(ops.length:Int):=by omega
      have a9:=h.2 (by decide);obtain ⟨A,rfl⟩:∃A:Nat,F=(A:Int):=⟨F.toNat,by omega⟩;have b6:(0:Int)≤(A:Int):=by omega
      have b7:(A:Int)<(ops.length:Int):=by omega
      clear n h av a9;go_upto_region 8 with fail;have g:=T;have i:=W;have m:=am;clear o p q r s t;obtain ⟨⟨o,p,q,r,s,t⟩,-⟩:=Qx i;obtain ⟨f,-⟩:=qV g a (by simp;omega);have U:=qd g;have V:=qd i;rw [Qg,au] at f;go_upto_region 10 with (go_at_call 185;go_must (refine (zt ⟨D,(b:Int),(A:Int),G,H,I⟩ _).mono ?_;rw [j.out];rintro L J ⟨rfl,k⟩;have y:=Z ((k.block d U).trans g);have K:=Z ((k.block C V).trans i);have Y:=Z (m.trans (k.mono m.size));obtain ⟨⟨N,O,P,Q,R,S⟩,-⟩:=Qx K;obtain ⟨aw,ax⟩:=qV y b (by simp;omega);have a7:=qd y;clear k));have u:=Z (show (J.setCell ⟨d,b,none⟩ (.int .i64 1)).heap[d]? =some (.cells (ints (((e.set b 1):List Nat).map Int.ofNat)).toArray 3 (0,0)) by rw [List.map_set];exact zo y b 1);have v:=Z (show (J.setCell ⟨d,b,none⟩ (.int .i64 1)).heap[C]? =_ from (qe al _).trans K);have z:=Z (Below.set Y ae b (.int .i64 1));clear aw ax f o p q r s t N O P Q R S;generalize J.setCell ⟨d,b,none⟩ (.int .i64 1)=a8 at u v z ⊢;obtain ⟨⟨N,O,P,Q,R,S⟩,-⟩:=Qx v;obtain ⟨f,-⟩:=qV u a (by simp;omega);have aa:=qd u;rw [Qg,zbw ah.out] at f;have ab:=qd v;go_wp2_with (go_at_call 185;go_must (refine (zt ⟨D,(b:Int),(A:Int),G,H,I⟩ _).mono ?_;rw [j.out];rintro L aC ⟨rfl,l⟩;have M:=Z ((l.block d aa).trans u);have ac:=Z (z.trans (l.mono z.size));have ad:=Z ((l.block C ab).trans v);obtain ⟨⟨u0,u1,u2,u3,u4,u5⟩,-⟩:=Qx ad;obtain ⟨b8,b9⟩:=qV M A (by simp;omega);have ca:=qd M;clear l));go_roundg a
      case measure=>omega
      case rel=>exact ⟨a,(a:Int)-1,((e.set b 1).set A 1),rfl,by go_num,rfl,by omega,by simp;exact aj,(zcM (zcM af _) _),Z (by have B:=ar.out;rw [zgw,ao.out,if_neg (by decide),zgx,j.out,if_pos ⟨ah,by decide⟩,zgy,j.out,if_pos ⟨zbw ah,by decide⟩] at B;exact B),Z (by rw [List.map_set];exact zo M A 1),Below.set ac ae A (.int .i64 1)⟩
   ·have ao:=Z aK
    have ai:=Z (show (e.set a 1).getD a 0=1 by simp [List.getD,show a<e.length by omega]);clear aK;rcases a4 with n | n | n
    ·have j:=Z n
     rw [n] at h;obtain ⟨D,E,F,G,H,I⟩:=c;simp only at o p q r s t h;clear n h;obtain ⟨f,aD⟩:=qV T a (by simp;omega);go_upto_region 8 with fail;have g:=Z (show (X.setCell ⟨d,a,none⟩ (.int .i64 1)).heap[d]? =some (.cells (ints (((e.set a 1):List Nat).map Int.ofNat)).toArray 3 (0,0)) by rw [List.map_set];exact zo T a 1);have i:=Z (show (X.setCell ⟨d,a,none⟩ (.int .i64 1)).heap[C]? =_ from (qe al _).trans W);have m:=Z (Below.set am ae a (.int .i64 1));clear f aD o p q r s t;generalize X.setCell ⟨d,a,none⟩ (.int .i64 1)=bA at g i m ⊢;obtain ⟨⟨o,p,q,r,s,t⟩,-⟩:=Qx i;obtain ⟨f,-⟩:=qV g a (by simp;omega);have U:=qd g;have V:=qd i;rw [Qg,ai.out] at f;go_upto_region 10 with (go_at_call 185;go_must (refine (zt ⟨D,E,F,G,H,I⟩ _).mono ?_;rw [j.out];rintro L J ⟨rfl,k⟩;have y:=Z ((k.block d U).trans g);have K:=Z ((k.block C V).trans i);have Y:=Z (m.trans (k.mono m.size));obtain ⟨⟨N,O,P,Q,R,S⟩,-⟩:=Qx K;clear k));clear f o p q r s t;obtain ⟨f,-⟩:=qV y a (by simp;omega);rw [Qg,ai.out] at f;have u:=y;have v:=K;have z:=Y;have aa:=qd u;have ab:=qd v;go_wp2_with (go_at_call 185;go_must (refine (zt ⟨D,E,F,G,H,I⟩ _).mono ?_;rw [j.out];rintro L aC ⟨rfl,l⟩;have M:=Z ((l.block d aa).trans u);have ac:=Z (z.trans (l.mono z.size));have ad:=Z ((l.block C ab).trans v);obtain ⟨⟨u0,u1,u2,u3,u4,u5⟩,-⟩:=Qx ad;clear l));go_roundg a
     case measure=>omega
     case rel=>exact ⟨a,(a:Int)-1,(e.set a 1),rfl,by go_num,rfl,by omega,by simp;exact aj,(zcM af _),Z (by have B:=ar.out;rw [zgw,ao.out,if_pos rfl,zgx,j.out,if_neg (by omega),zgy,j.out,if_neg (by omega)] at B;exact B),M,ac⟩
    ·have j:=Z n
     rw [n] at h;obtain ⟨D,E,F,G,H,I⟩:=c;simp only at o p q r s t h;have av:=h.1 (by decide);obtain ⟨b,rfl⟩:∃b:Nat,E=(b:Int):=⟨E.toNat,by omega⟩;have a5:(0:Int)≤(b:Int):=by omega
     have a6:(b:Int)<(ops.length:Int):=by omega
     clear n h av;obtain ⟨f,aD⟩:=qV T a (by simp;omega);go_upto_region 8 with fail;have g:=Z (show (X.setCell ⟨d,a,none⟩ (.int .i64 1)).heap[d]? =some (.cells (ints (((e.set a 1):List Nat).map Int.ofNat)).toArray 3 (0,0)) by rw [List.map_set];exact zo T a 1);have i:=Z (show (X.setCell ⟨d,a,none⟩ (.int .i64 1)).heap[C]? =_ from (qe al _).trans W);have m:=Z (Below.set am ae a (.int .i64 1));clear f aD o p q r s t;generalize X.setCell ⟨d,a,none⟩ (.int .i64 1)=bA at g i m ⊢;obtain ⟨⟨o,p,q,r,s,t⟩,-⟩:=Qx i;obtain ⟨f,-⟩:=qV g a (by simp;omega);have U:=qd g;have V:=qd i;rw [Qg,ai.out] at f;go_upto_region 10 with (go_at_call 185;go_must (refine (zt ⟨D,(b:Int),F,G,H,I⟩ _).mono ?_;rw [j.out];rintro L J ⟨rfl,k⟩;have y:=Z ((k.block d U).trans g);have K:=Z ((k.block C V).trans i);have Y:=Z (m.trans (k.mono m.size));obtain ⟨⟨N,O,P,Q,R,S⟩,-⟩:=Qx K;obtain ⟨aw,ax⟩:=qV y b (by simp;omega);have a7:=qd y;clear k));have u:=Z (show (J.setCell ⟨d,b,none⟩ (.int .i64 1)).heap[d]? =some (.cells (ints ((((e.set a 1).set b 1):List Nat).map Int.ofNat)).toArray 3 (0,0)) by rw [List.map_set];exact zo y b 1);have v:=Z (show (J.setCell ⟨d,b,none⟩ (.int .i64 1)).heap[C]? =_ from (qe al _).trans K);have z:=Z (Below.set Y ae b (.int .i64 1));clear aw ax f o p q r s t N O P Q R S;generalize J.setCell ⟨d,b,none⟩ (.int .i64 1)=a8 at u v z ⊢;obtain ⟨⟨N,O,P,Q,R,S⟩,-⟩:=Qx v;obtain ⟨f,-⟩:=qV u a (by simp;omega);have aa:=qd u;rw [Qg,zbw ai.out] at f;have ab:=qd v;go_wp2_with (go_at_call 185;go_must (refine (zt ⟨D,(b:Int),F,G,H,I⟩ _).mono ?_;rw [j.out];rintro L aC ⟨rfl,l⟩;have M:=Z ((l.block d aa).trans u);have ac:=Z (z.trans (l.mono z.size));have ad:=Z ((l.block C ab).trans v);obtain ⟨⟨u0,u1,u2,u3,u4,u5⟩,-⟩:=Qx ad;clear l));go_roundg a
     case measure=>omega
     case rel=>exact ⟨a,(a:Int)-1,((e.set a 1).set b 1),rfl,by go_num,rfl,by omega,by simp;exact aj,(zcM (zcM af _) _),Z (by have B:=ar.out;rw [zgw,ao.out,if_pos rfl,zgx,j.out,if_pos ⟨ai,by decide⟩,zgy,j.out,if_neg (by omega)] at B;exact B),M,ac⟩
    ·have j:=Z n
     rw [n] at h;obtain ⟨D,E,F,G,H,I⟩:=c;simp only at o p q r s t h;have av:=h.1 (by decide);obtain ⟨b,rfl⟩:∃b:Nat,E=(b:Int):=⟨E.toNat,by omega⟩;have a5:(0:Int)≤(b:Int):=by omega
     have a6:(b:Int)<(ops.length:Int):=by omega
     have a9:=h.2 (by decide);obtain ⟨A,rfl⟩:∃A:Nat,F=(A:Int):=⟨F.toNat,by omega⟩;have b6:(0:Int)≤(A:Int):=by omega
     have b7:(A:Int)<(ops.length:Int):=by omega
     clear n h av a9;obtain ⟨f,aD⟩:=qV T a (by simp;omega);go_upto_region 8 with fail;have g:=Z (show (X.setCell ⟨d,a,none⟩ (.int .i64 1)).heap[d]? =some (.cells (ints (((e.set a 1):List Nat).map Int.ofNat)).toArray 3 (0,0)) by rw [List.map_set];exact zo T a 1);have i:=Z (show (X.setCell ⟨d,a,none⟩ (.int .i64 1)).heap[C]? =_ from (qe al _).trans W);have m:=Z (Below.set am ae a (.int .i64 1));clear f aD o p q r s t;generalize X.setCell ⟨d,a,none⟩ (.int .i64 1)=bA at g i m ⊢;obtain ⟨⟨o,p,q,r,s,t⟩,-⟩:=Qx i;obtain ⟨f,-⟩:=qV g a (by simp;omega);have U:=qd g;have V:=qd i;rw [Qg,ai.out] at f;go_upto_region 10 with (go_at_call 185;go_must (refine (zt ⟨D,(b:Int),(A:Int),G,H,I⟩ _).mono ?_;rw [j.out];rintro L J ⟨rfl,k⟩;have y:=Z ((k.block d U).trans g);have K:=Z ((k.block C V).trans i);have Y:=Z (m.trans (k.mono m.size));obtain ⟨⟨N,O,P,Q,R,S⟩,-⟩:=Qx K;obtain ⟨aw,ax⟩:=qV y b (by simp;omega);have a7:=qd y;clear k));have u:=Z (show (J.setCell ⟨d,b,none⟩ (.int .i64 1)).heap[d]? =some (.cells (ints ((((e.set a 1).set b 1):List Nat).map Int.ofNat)).toArray 3 (0,0)) by rw [List.map_set];exact zo y b 1);have v:=Z (show (J.setCell ⟨d,b,none⟩ (.int .i64 1)).heap[C]? =_ from (qe al _).trans K);have z:=Z (Below.set Y ae b (.int .i64 1));clear aw ax f o p q r s t N O P Q R S;generalize J.setCell ⟨d,b,none⟩ (.int .i64 1)=a8 at u v z ⊢;obtain ⟨⟨N,O,P,Q,R,S⟩,-⟩:=Qx v;obtain ⟨f,-⟩:=qV u a (by simp;omega);have aa:=qd u;rw [Qg,zbw ai.out] at f;have ab:=qd v;go_wp2_with (go_at_call 185;go_must (refine (zt ⟨D,(b:Int),(A:Int),G,H,I⟩ _).mono ?_;rw [j.out];rintro L aC ⟨rfl,l⟩;have M:=Z ((l.block d aa).trans u);have ac:=Z (z.trans (l.mono z.size));have ad:=Z ((l.block C ab).trans v);obtain ⟨⟨u0,u1,u2,u3,u4,u5⟩,-⟩:=Qx ad;obtain ⟨b8,b9⟩:=qV M A (by simp;omega);have ca:=qd M;clear l));go_roundg a
     case measure=>omega
     case rel=>exact ⟨a,(a:Int)-1,(((e.set a 1).set b 1).set A 1),rfl,by go_num,rfl,by omega,by simp;exact aj,(zcM (zcM (zcM af _) _) _),Z (by have B:=ar.out;rw [zgw,ao.out,if_pos rfl,zgx,j.out,if_pos ⟨ai,by decide⟩,zgy,j.out,if_pos ⟨zbw ai,by decide⟩] at B;exact B),Z (by rw [List.map_set];exact zo M A 1),Below.set ac ae A (.int .i64 1)⟩
theorem zmN (g:Nat)(q:Array Value)(L:∀r w,(callFunc g r).run prog w= .ok (.enter g r) w)(d n c:Nat)(w:World)(k:d<w.heap.size)(M:n<20)(s:∀b,b<n→w.cell? ⟨d,b,none⟩=some (.int .i64 (b:Int)))(t:∀e b,1≤b→b<n→Below w.heap.size w e→Calls prog g (#[.int .i64 (b:Int),.int .i64 ((b:Int)-1)]++q) e (fun h A=>∃i,h= .returned (.int .i64 i)∧0≤i∧Below e.heap.size e A)):
  Calls prog 230 #[.slice (some ⟨d,0,none⟩) n c,.int .i64 0,.int .i64 n,.func (.func g) #[] q] w (fun h B=>h= .returned (.tuple #[])∧Below w.heap.size w B):=by
 have u:=Z s;have C:=Z t;clear s t;go_enter func230,ntmps230;go_wp2_with fail;go_loopg [8] n (fun l D wr=>∃a:Nat,1≤a∧a≤n+1∧l=n+1-a∧D= .int .i64 a∧Hid (Below w.heap.size w wr))
 case atStart=>exact ⟨1,Nat.le_refl _,by omega,by omega,rfl,Z (Below.refl _ _)⟩
 case round=>
  obtain ⟨a,E,N,O,rfl,f⟩:=hrel;rename World=>wr
  by_cases m:a<n
  ·have v:=(f.cell (p:=⟨d,a,none⟩) k).trans (u a m)
   have o:=(f.cell (p:=⟨d,a-1,none⟩) k).trans (u (a-1) (by omega));rw [show ((a-1:Nat):Int)=(a:Int)-1 by omega] at o;have P:(0:Int)<(a:Int):=by omega
   have Q:0<a:=by omega
   have R:(1:Int)≤(a:Int):=by omega
   have S:IntKind.i64.wrap ((a:Int)-1)=(a:Int)-1:=by simp only [IntKind.wrap,IntKind.bits,IntKind.signed];simp;omega
   have T:(a:Int)<(n:Int):=by omega
   have U:(0:Int)≤(a:Int):=by omega
   have V:(0:Int)≤(a:Int)-1:=by omega
   have W:(a:Int)-1<(n:Int):=by omega
   have X:((a:Int)-1).toNat=a-1:=by omega
   have x:=C.out wr.drew a E m f.drew;have F:=Z x;clear x;go_wp2_with fail;go_loopg [9] 0 (fun l G p=>l=0∧G= .int .i64 a∧p=wr)
   case atStart=>exact ⟨rfl,rfl,rfl⟩
   case round=>
    obtain ⟨rfl,rfl,rfl⟩:=hrel;rename World=>p
    go_upto_region 4 with fail;have y:d<p.heap.size:=Nat.lt_of_lt_of_le k f.size;refine rg (fun e=>e.cell? ⟨d,a,none⟩=some (.int .i64 (a:Int))∧e.cell? ⟨d,a-1,none⟩=some (.int .i64 ((a:Int)-1))) ⟨v,o⟩ (fun H=> ?_);refine tk 0 ?_;refine tk 1 ?_;refine tk 2 ?_;refine tk 3 ?_;refine tk 4 ?_;refine tk 5 ?_;refine tk 6 ?_;refine tk 7 ?_;refine tk 8 ?_;refine tk 9 ?_;refine tk 10 ?_;refine tk 11 ?_;refine tk 12 ?_;refine tk 13 ?_;refine rd1 14 (fun I z=> ?_)
    (go_simp;go_at_fn g;refine F.mono ?_;rintro h Y ⟨i,rfl,aa,j⟩;have ab:¬i<0:=(by omega);have J:=And.intro ((j.cell (p:=⟨d,a,none⟩) y).trans v) ((j.cell (p:=⟨d,a-1,none⟩) y).trans o);have K:=Z (f.drew.trans (j.mono f.size));clear j;(try dsimp only))
    refine z _ _ J (fun H=>nx ?_);clear z I;refine tk 15 ?_;refine tk 16 ?_;refine dn ?_;go_wp2_with fail;go_roundg (n+1-(a+1))
    case measure=>omega
    case rel=>exact ⟨a+1,by omega,by omega,rfl,by go_num,K⟩
  ·have ac:¬(a:Int)<(n:Int):=by omega
   clear m;go_wp2_with fail;go_end0;exact ⟨rfl,f⟩
end Go.Proofs.YtklofgfkaaoipaaGreatDoor
