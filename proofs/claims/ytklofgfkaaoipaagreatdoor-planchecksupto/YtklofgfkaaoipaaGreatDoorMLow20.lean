/-
  THE CONTRACT of lower.Lower at the graph of the document's example.
-/
import Derived.Test.YtklofgfkaaoipaaGreatDoorMLow21
import Derived.Test.YtklofgfkaaoipaaGreatDoorMLow19
import Derived.Test.YtklofgfkaaoipaaGreatDoorMDag4a
import Derived.Test.YtklofgfkaaoipaaGreatDoorMHd
set_option maxHeartbeats 16000000
set_option maxRecDepth 100000
set_option linter.unusedSimpArgs false
set_option linter.unusedVariables false
namespace Go.Proofs.YtklofgfkaaoipaaGreatDoor
open Go.RowKit Go.Proofs.Tryz
variable {w:World}
theorem zoj (a:Option Addr)(c:Nat)(f:Value)(w:World):Calls prog 173 #[.slice a 0 c,f] w (qM (.int .i64 (-1)) w):=by
 go_enter func173,ntmps173;go_wp2_with fail;go_loopg [8] 0 (fun b d wr=>b=0∧d= .int .i64 0∧wr=w)
 case atStart=>exact ⟨rfl,rfl,rfl⟩
 case round=>
  obtain ⟨rfl,rfl,rfl⟩:=hrel;go_wp2_with fail;go_ret;exact ⟨rfl,Below.refl _ _⟩
theorem zof (a:Option Addr)(c:Nat)(f:Value)(w:World):Calls prog 120 #[.slice a 0 c,f] w (qM (.bool false) w):=by
 have d:=Z (zoj a c f w);go_enter func120,ntmps120;go_wp2_with (go_at_call 173;refine d.mono ?_;rintro g h ⟨rfl,b⟩;have e:=Z b;clear b);go_ret;exact ⟨rfl,e⟩
theorem zaf {b:World}{r:Option Nat}(a:b.drew.grownBy w r):b.grownBy w r:=⟨a.os,a.tape,a.output,a.size,a.block⟩
theorem zb0 (g:MGraph):∀(a:List MNode) (c:LS) (b:List (List Nat)),(zaY g a c b).2.length=b.length+a.length
 |[],c,b=>by simp [zaY]
 |d::a,c,b=>by rw [zaY,zb0 g a];simp;omega
def exL:List MOp:=[⟨1,0,0,0,0,0⟩,⟨1,0,0,0,0,1⟩,⟨6,0,1,0,0,0⟩,⟨18,2,0,0,0,0⟩]
theorem zmx:∀a∈exL,(0<zw a→0≤a.a∧a.a<exL.length)∧(1<zw a→0≤a.b∧a.b<exL.length):=by
 intro a b;simp [exL] at b;rcases b with rfl | rfl | rfl | rfl<;>decide
theorem zhx:∀a∈exL,a.c<18446744073709551616:=by
 intro a b;simp [exL] at b;rcases b with rfl | rfl | rfl | rfl<;>decide
theorem zi4:zcr exL=exL:=by kernel_rfl
theorem zej:qw exL=[1,1,2,3]:=by kernel_rfl
theorem zpp:∀a,1≤a→a<exL.length→(qw exL).getD (a-1) 0≤(qw exL).getD a 0:=by
 intro a c b;have d:a<4:=b;rw [zej];obtain rfl | rfl | rfl:a=1∨a=2∨a=3:=by omega
 all_goals decide
theorem zn8:zgv exG=zcq exL (List.range exL.length):=by kernel_rfl
theorem zmy:zgv exG=exL:=by kernel_rfl
theorem QK {g:Nat}{a b c d:Value}{t:TypeId}(e:w.heap[g]? =some (.cells #[a,b,c,d] t (0,0))):
  w.cell? ⟨g,0,none⟩=some a∧w.cell? ⟨g,1,none⟩=some b∧w.cell? ⟨g,2,none⟩=some c∧w.cell? ⟨g,3,none⟩=some d:=by
 refine ⟨?_,?_,?_,?_⟩<;>simp [World.cell?,e]
theorem zlf {B:Nat}{cp go cq cr:Value}{di dj:List Value}(w:World)(h:GAt B w cp go cq cr exG di dj)(cs:yC w)(ek:0<w.heap.size)(dk:Option Addr)(dl:Nat):
  Calls prog 76 #[.agg #[cp,go,cq,cr],.slice dk 0 dl] w fun e ct=>∃cu,e= .returned (.tuple #[cu,.nilIface])∧ct.ownsRow w.heap.size 61 6 cu (zgv exG).length (qz (zgv exG))∧Below w.heap.size w ct:=by
 have ap:=Z h;have cv:=Z cs;obtain ⟨el,t,rfl,-,cw⟩:=qg h.nodes;obtain ⟨q,rfl,-,dm,-⟩:=cw (by decide);clear cw;obtain ⟨em,y,rfl,-,cx⟩:=qg h.outs;obtain ⟨r,rfl,-,dp,cy⟩:=cx (by decide);have cz:w.cell? ⟨r,0,none⟩=some (.int .i64 2):=cy 0 (by decide);have dq:=Z cz;clear cx cy cz;obtain ⟨dr,u,rfl⟩:=h.in0.form;obtain ⟨af,v,rfl⟩:=h.in1.form;have br:exG.nodes.length=3:=rfl;have bs:exG.outs.length=1:=rfl;have bt:exG.in0.length=1:=rfl;have bu:exG.in1.length=1:=rfl;rw [br,bs,bt,bu];rw [br,bs,bt,bu] at ap;clear h cs br bs bt bu;obtain ⟨en,cA,X⟩:=ap.in0;obtain ⟨ds,rfl⟩:=List.length_eq_one_iff.1 (X.length.trans (rfl:exG.in0.length=1));obtain ⟨n,aq,cB,-,cC,-,cD,-,-⟩:=zm cA 0 (show 0<1 from Nat.one_pos);obtain ⟨rfl,rfl⟩:dr=some ⟨n,0,none⟩∧u=aq:=by simpa using cB
 have bv:w.ownsRow B 3 1 ds 0 (ints []):=X.1;obtain ⟨dt,du,rfl,-,-⟩:=qg bv;obtain ⟨eo,cE,bw⟩:=ap.in1;obtain ⟨dv,rfl⟩:=List.length_eq_one_iff.1 (bw.length.trans (rfl:exG.in1.length=1));obtain ⟨o,ar,cF,-,cG,-,cH,-,-⟩:=zm cE 0 (show 0<1 from Nat.one_pos);obtain ⟨rfl,rfl⟩:af=some ⟨o,0,none⟩∧v=ar:=by simpa using cF
 have bx:w.ownsRow B 3 1 dv 0 (ints []):=bw.1;obtain ⟨dw,dx,rfl,-,-⟩:=qg bx;have dy:=Z bv;have dz:=Z bx;have cI:=Z cD;have cJ:=Z cH;clear cB cF cA X cE bw bv bx cD cH;have cK:=(Below.refl w.heap.size w).alloc (Nat.le_refl _) (.cells #[.slice (some ⟨q,0,none⟩) 3 t,.slice (some ⟨r,0,none⟩) 1 y,.slice (some ⟨n,0,none⟩) 1 u,.slice (some ⟨o,0,none⟩) 1 v] 76);have bz:=Z cK;have cL:=Z (heap_alloc_new w (.cells #[.slice (some ⟨q,0,none⟩) 3 t,.slice (some ⟨r,0,none⟩) 1 y,.slice (some ⟨n,0,none⟩) 1 u,.slice (some ⟨o,0,none⟩) 1 v] 76));have bA:=Z (fun (H:World) (E:Below w.heap.size w H)=>zfz H (ap.later E) (cv.below E) (by have:=E.size;omega) (by decide +kernel) (by intro g aK;simp [exG] at aK;rcases aK with rfl | rfl | rfl<;>decide) (by decide));have dA:=Z (fun (H:World) (E:Below w.heap.size w H)=>zds H (ap.later E) (by decide));clear cK;go_enter func76,ntmps76;go_upto_region 8 with (first | (go_at_call 120;refine (zof _ _ _ _).mono ?_;rintro e x ⟨rfl,a8⟩;have dB:=Z (cM.trans (a8.mono cM.size));obtain ⟨aA,k1,k2,k3⟩:=QK ((a8.block w.heap.size (qd a9)).trans a9);have bB:=Z ((a8.block w.heap.size (qd a9)).trans a9);clear a8) | (go_at_call 74;refine (dA _ bC).mono ?_;rw [show QN 0 exG.nodes=[] from rfl];rintro e ep ⟨eq,rfl,bD,bE⟩;simp only [List.length_nil] at bD;obtain ⟨er,aB,rfl,-,-⟩:=qg bD;have cM:=Z (bC.trans (bE.mono bC.size));have bF:=(bE.block w.heap.size (qd cN)).trans cN;obtain ⟨aA,k1,k2,k3⟩:=QK bF;have a9:=Z bF;clear bE bF bD) | (go_at_call 72;refine (bA _ bz).mono ?_;rintro e es ⟨rfl,bG⟩;have bC:=Z (bz.trans (bG.mono bz.size));have bH:=(bG.block w.heap.size (qd cL)).trans cL;obtain ⟨aA,k1,k2,k3⟩:=QK bH;have cN:=Z bH;clear bG bH));have bI:=Z (heap_alloc_new x (.cells #[.slice (some ⟨q,0,none⟩) 3 t,.slice (some ⟨r,0,none⟩) 1 y,.slice (some ⟨n,0,none⟩) 1 u,.slice (some ⟨o,0,none⟩) 1 v,.slice none 0 0,.slice none 0 0,.slice none 0 0,.slice none 0 0,.bool false] 248));have bJ:=Z ((Below.refl x.heap.size x).alloc (Nat.le_refl _) (.cells #[.slice (some ⟨q,0,none⟩) 3 t,.slice (some ⟨r,0,none⟩) 1 y,.slice (some ⟨n,0,none⟩) 1 u,.slice (some ⟨o,0,none⟩) 1 v,.slice none 0 0,.slice none 0 0,.slice none 0 0,.slice none 0 0,.bool false] 248));generalize x.alloc (.cells #[.slice (some ⟨q,0,none⟩) 3 t,.slice (some ⟨r,0,none⟩) 1 y,.slice (some ⟨n,0,none⟩) 1 u,.slice (some ⟨o,0,none⟩) 1 v,.slice none 0 0,.slice none 0 0,.slice none 0 0,.slice none 0 0,.bool false] 248)=et at bI bJ ⊢;obtain ⟨b,bK⟩:∃b,x.heap.size=b:=⟨_,rfl⟩;have eu:=Z bK;have bL:w.heap.size<b:=by have:=qd bB;omega
 rw [bK] at bI bJ ⊢;clear bK aA k1 k2 k3;have ag:=Z (show ∀H,Below b x H→Below w.heap.size w H from fun H E=>dB.trans (E.mono (Nat.le_of_lt bL)));go_wp2_with fail;go_loopg [47] 2 (fun L dC wr=>∃(j:Nat) (ba bb:Value),j≤2∧L=2-j∧dC= .int .i64 j∧(j=0→ba= .slice none 0 0)∧(j≤1→bb= .slice none 0 0)∧Hid (wr.heap[b]? =some (.cells #[.slice (some ⟨q,0,none⟩) 3 t,.slice (some ⟨r,0,none⟩) 1 y,.slice (some ⟨n,0,none⟩) 1 u,.slice (some ⟨o,0,none⟩) 1 v,.slice none 0 0,.slice none 0 0,ba,bb,.bool false] 248 (0,0)))∧Hid (1≤j→wr.ownsRow (b+1) 3 1 ba 1 (ints [0]))∧Hid (2≤j→wr.ownsRow (b+1) 3 1 bb 1 (ints [0]))∧Hid (Below b x wr))
 case atStart=>exact ⟨0,_,_,by omega,rfl,rfl,fun _=>rfl,fun _=>rfl,bI,Z (fun h=>by omega),Z (fun h=>by omega),bJ⟩
 case round=>
  obtain ⟨j,ba,bb,dD,dE,rfl,bc,aL,bd,bM,cO,aC⟩:=hrel;rename World=>wr
  have aM:=(aC.block w.heap.size bL).trans bB;obtain ⟨aA,k1,k2,k3⟩:=QK aM;have aN:=(ag _ aC).cell (p:=⟨n,0,none⟩) cC;have aO:=(ag _ aC).cell (p:=⟨o,0,none⟩) cG;rw [cI.out] at aN;rw [cJ.out] at aO;simp only [List.getElem?_cons_zero] at aN aO;clear aM
  by_cases aP:j=0
  ·subst aP
   have dF:=bc rfl;subst dF;have bN:=aL (by omega);subst bN;clear bc aL;rw [show ((0:Nat):Int)=0 from rfl];go_wp2_with fail;go_loopg [10,55] 1 (fun L bO bP i=>∃(k:Nat) (Y:Value),k≤1∧L=1-k∧bO= .int .i64 k∧bP= .int .i64 k∧(k=0→Y= .slice none 0 0)∧Hid (i.heap[b]? =some (.cells #[.slice (some ⟨q,0,none⟩) 3 t,.slice (some ⟨r,0,none⟩) 1 y,.slice (some ⟨n,0,none⟩) 1 u,.slice (some ⟨o,0,none⟩) 1 v,.slice none 0 0,.slice none 0 0,Y,(.slice none 0 0),.bool false] 248 (0,0)))∧Hid (1≤k→i.ownsRow (b+1) 3 1 Y 1 (ints [0]))∧Hid (Below b x i))
   case atStart=>exact ⟨0,_,by omega,rfl,rfl,rfl,fun _=>rfl,bd,Z (fun h=>by omega),aC⟩
   case round=>
    obtain ⟨k,Y,bQ,dG,rfl,rfl,au,I,bR,aa⟩:=hrel;rename World=>i
    have av:=(ag _ aa).cell (p:=⟨n,0,none⟩) cC;rw [cI.out] at av;simp only [List.getElem?_cons_zero] at av;have M:=qd I
    by_cases aQ:k=0
    ·subst aQ
     have bS:=au rfl;subst bS;have bT:i.cell? ⟨b,6,none⟩=some (.slice none 0 0):=by have:=I.out;simp [World.cell?,this]
     have bU:=frz I 6;clear au;rw [show ((0:Nat):Int)=0 from rfl];go_upto_region 15 with fail;go_cut [] from 59 to 72 (fun s=>∃(z A:Nat),Hid (s.heap[b]? =some (.cells #[.slice (some ⟨q,0,none⟩) 3 t,.slice (some ⟨r,0,none⟩) 1 y,.slice (some ⟨n,0,none⟩) 1 u,.slice (some ⟨o,0,none⟩) 1 v,.slice none 0 0,.slice none 0 0,(.slice (some ⟨z,0,none⟩) 1 A),(.slice none 0 0),.bool false] 248 (0,0)))∧Hid (s.ownsRow (b+1) 3 1 (.slice (some ⟨z,0,none⟩) 1 A) 1 (ints [0]))∧Hid (Below b x s))
     case first=>
      have X:=World.ownsRow_nil i.drew (b+1) 3 1;have aR:=Z X;have aS:b+1≤i.heap.size:=M;clear X;refine rg (fun _=>True) trivial (fun d=> ?_);refine tk 0 ?_;refine tk 1 ?_;refine tk 2 ?_;refine tk 3 ?_;refine tk 4 ?_;refine tk 5 ?_;refine tk 6 ?_;refine tk 8 ?_;refine tk 11 ?_;refine tk 12 ?_;refine rd2 7 9 (fun c a=> ?_) (fun c a=> ?_)
      ·skip
       go_simp;refine a _ _ trivial (fun d=>nx ?_);clear a c;refine rd1 9 (fun c a=> ?_);go_simp;refine a _ _ trivial (fun d=>nx ?_);clear a c;refine rd1 10 (fun c a=> ?_)
       (refine yo (by rfl) _ _ 24 (by rfl) 3 _ 1 8 underlying24 qD rfl (by decide) #[.int .i64 0] 0 (b+1) (.slice none 0 0) [] aR (by rfl) (by rfl) rfl (by simp [Value.oneCell']) aS (by omega) (by unfold maxLen;omega) ?_;intro z A aw N C;have l:=(C.block b M (fun e=>by cases e)).trans I;have bV:=frz l 6;have bW:aw.cell? ⟨b,6,none⟩=some (.slice none 0 0):=(by simp [World.cell?,l]);have ax:=Z N;have ab:=Z C;have J:=Z l;clear N C l)
       refine a _ _ trivial (fun d=>nx ?_);clear a c;refine tk 13 ?_;refine rd1 14 (fun c a=> ?_);go_simp;refine a _ _ trivial (fun d=>nx ?_);clear a c;refine dn ?_;go_wp2_with fail;go_meet;exact ⟨z,A,Z (by rw [heap_setCell J.out];rfl),Z (qp ax (qh _ _ _ _) (Off.block J (by decide))),Z ((aa.grown (zaf ab) (Nat.le_of_lt M) (fun f ah=>by cases ah)).setCell (p:=⟨b,6,none⟩) (Nat.le_refl _) _)⟩
      ·skip
       go_simp;refine a _ _ trivial (fun d=>nx ?_);clear a c;refine rd1 7 (fun c a=> ?_);go_simp;refine a _ _ trivial (fun d=>nx ?_);clear a c;refine rd1 10 (fun c a=> ?_)
       (refine yo (by rfl) _ _ 24 (by rfl) 3 _ 1 8 underlying24 qD rfl (by decide) #[.int .i64 0] 0 (b+1) (.slice none 0 0) [] aR (by rfl) (by rfl) rfl (by simp [Value.oneCell']) aS (by omega) (by unfold maxLen;omega) ?_;intro z A aw N C;have l:=(C.block b M (fun e=>by cases e)).trans I;have bV:=frz l 6;have bW:aw.cell? ⟨b,6,none⟩=some (.slice none 0 0):=(by simp [World.cell?,l]);have ax:=Z N;have ab:=Z C;have J:=Z l;clear N C l)
       refine a _ _ trivial (fun d=>nx ?_);clear a c;refine tk 13 ?_;refine rd1 14 (fun c a=> ?_);go_simp;refine a _ _ trivial (fun d=>nx ?_);clear a c;refine dn ?_;go_wp2_with fail;go_meet;exact ⟨z,A,Z (by rw [heap_setCell J.out];rfl),Z (qp ax (qh _ _ _ _) (Off.block J (by decide))),Z ((aa.grown (zaf ab) (Nat.le_of_lt M) (fun f ah=>by cases ah)).setCell (p:=⟨b,6,none⟩) (Nat.le_refl _) _)⟩
     case rest=>
     rename World=>s
     obtain ⟨z,A,bX,bY,O⟩:=hcut;have aT:=zB (.slice dt 0 du) [] s (Arr.of_owns (Below.owns dy (ag _ O)));have bZ:=Z aT;clear aT av bT bU;go_wp2_with (go_at_call 34;refine bZ.mono ?_;rw [show qN []=1 from rfl];rintro e aU ⟨rfl,rfl⟩);go_roundg 0
     case measure=>omega
     case rel=>exact ⟨1,_,Nat.le_refl _,rfl,by go_num,by go_num,fun h=>absurd h (by decide),bX,Z (fun _=>bY.out),O⟩
    ·obtain rfl:k=1:=by omega
     clear au aQ;have b0:=Z (bR (Nat.le_refl _));go_wp2_with fail;go_roundg 1
     case measure=>omega
     case rel=>exact ⟨1,_,_,by omega,rfl,by go_num,fun h=>absurd h (by decide),fun _=>rfl,I,Z (fun _=>b0.out),Z (fun h=>by omega),aa⟩
  ·by_cases cP:j=1
   ·subst cP
    have bN:=aL (by omega);subst bN;have cQ:=Z (bM (Nat.le_refl _));obtain ⟨R,S,rfl,-,-⟩:=qg cQ;clear bc aL;rw [show ((1:Nat):Int)=1 from rfl];go_wp2_with fail;go_loopg [10,55] 1 (fun L bO bP i=>∃(k:Nat) (Y:Value),k≤1∧L=1-k∧bO= .int .i64 k∧bP= .int .i64 k∧(k=0→Y= .slice none 0 0)∧Hid (i.heap[b]? =some (.cells #[.slice (some ⟨q,0,none⟩) 3 t,.slice (some ⟨r,0,none⟩) 1 y,.slice (some ⟨n,0,none⟩) 1 u,.slice (some ⟨o,0,none⟩) 1 v,.slice none 0 0,.slice none 0 0,(.slice R 1 S),Y,.bool false] 248 (0,0)))∧Hid (1≤k→i.ownsRow (b+1) 3 1 Y 1 (ints [0]))∧Hid (i.ownsRow (b+1) 3 1 (.slice R 1 S) 1 (ints [0]))∧Hid (Below b x i))
    case atStart=>exact ⟨0,_,by omega,rfl,rfl,rfl,fun _=>rfl,bd,Z (fun h=>by omega),cQ,aC⟩
    case round=>
     obtain ⟨k,Y,bQ,dG,rfl,rfl,au,I,bR,b1,aa⟩:=hrel;rename World=>i
     have av:=(ag _ aa).cell (p:=⟨o,0,none⟩) cG;rw [cJ.out] at av;simp only [List.getElem?_cons_zero] at av;have M:=qd I
     by_cases aQ:k=0
     ·subst aQ
      have bS:=au rfl;subst bS;have bT:i.cell? ⟨b,7,none⟩=some (.slice none 0 0):=by have:=I.out;simp [World.cell?,this]
      have bU:=frz I 7;clear au;rw [show ((0:Nat):Int)=0 from rfl];go_upto_region 15 with fail;go_cut [] from 59 to 72 (fun s=>∃(z A:Nat),Hid (s.heap[b]? =some (.cells #[.slice (some ⟨q,0,none⟩) 3 t,.slice (some ⟨r,0,none⟩) 1 y,.slice (some ⟨n,0,none⟩) 1 u,.slice (some ⟨o,0,none⟩) 1 v,.slice none 0 0,.slice none 0 0,(.slice R 1 S),(.slice (some ⟨z,0,none⟩) 1 A),.bool false] 248 (0,0)))∧Hid (s.ownsRow (b+1) 3 1 (.slice (some ⟨z,0,none⟩) 1 A) 1 (ints [0]))∧Hid (s.ownsRow (b+1) 3 1 (.slice R 1 S) 1 (ints [0]))∧Hid (Below b x s))
      case first=>
       have X:=World.ownsRow_nil i.drew (b+1) 3 1;have aR:=Z X;have aS:b+1≤i.heap.size:=M;clear X;refine rg (fun _=>True) trivial (fun d=> ?_);refine tk 0 ?_;refine tk 1 ?_;refine tk 2 ?_;refine tk 3 ?_;refine tk 4 ?_;refine tk 5 ?_;refine tk 6 ?_;refine tk 8 ?_;refine tk 11 ?_;refine tk 12 ?_;refine rd2 7 9 (fun c a=> ?_) (fun c a=> ?_)
       ·skip
        go_simp;refine a _ _ trivial (fun d=>nx ?_);clear a c;refine rd1 9 (fun c a=> ?_);go_simp;refine a _ _ trivial (fun d=>nx ?_);clear a c;refine rd1 10 (fun c a=> ?_)
        (refine yo (by rfl) _ _ 24 (by rfl) 3 _ 1 8 underlying24 qD rfl (by decide) #[.int .i64 0] 0 (b+1) (.slice none 0 0) [] aR (by rfl) (by rfl) rfl (by simp [Value.oneCell']) aS (by omega) (by unfold maxLen;omega) ?_;intro z A aw N C;have l:=(C.block b M (fun e=>by cases e)).trans I;have bV:=frz l 7;have bW:aw.cell? ⟨b,7,none⟩=some (.slice none 0 0):=(by simp [World.cell?,l]);have ax:=Z N;have ab:=Z C;have J:=Z l;clear N C l)
        refine a _ _ trivial (fun d=>nx ?_);clear a c;refine tk 13 ?_;refine rd1 14 (fun c a=> ?_);go_simp;refine a _ _ trivial (fun d=>nx ?_);clear a c;refine dn ?_;go_wp2_with fail;go_meet;exact ⟨z,A,Z (by rw [heap_setCell J.out];rfl),Z (qp ax (qh _ _ _ _) (Off.block J (by decide))),Z (qp (qp b1 (zaf ab) (Off.none _ _ _)) (qh _ _ _ _) (Off.block J (by decide))),Z ((aa.grown (zaf ab) (Nat.le_of_lt M) (fun f ah=>by cases ah)).setCell (p:=⟨b,7,none⟩) (Nat.le_refl _) _)⟩
       ·skip
        go_simp;refine a _ _ trivial (fun d=>nx ?_);clear a c;refine rd1 7 (fun c a=> ?_);go_simp;refine a _ _ trivial (fun d=>nx ?_);clear a c;refine rd1 10 (fun c a=> ?_)
        (refine yo (by rfl) _ _ 24 (by rfl) 3 _ 1 8 underlying24 qD rfl (by decide) #[.int .i64 0] 0 (b+1) (.slice none 0 0) [] aR (by rfl) (by rfl) rfl (by simp [Value.oneCell']) aS (by omega) (by unfold maxLen;omega) ?_;intro z A aw N C;have l:=(C.block b M (fun e=>by cases e)).trans I;have bV:=frz l 7;have bW:aw.cell? ⟨b,7,none⟩=some (.slice none 0 0):=(by simp [World.cell?,l]);have ax:=Z N;have ab:=Z C;have J:=Z l;clear N C l)
        refine a _ _ trivial (fun d=>nx ?_);clear a c;refine tk 13 ?_;refine rd1 14 (fun c a=> ?_);go_simp;refine a _ _ trivial (fun d=>nx ?_);clear a c;refine dn ?_;go_wp2_with fail;go_meet;exact ⟨z,A,Z (by rw [heap_setCell J.out];rfl),Z (qp ax (qh _ _ _ _) (Off.block J (by decide))),Z (qp (qp b1 (zaf ab) (Off.none _ _ _)) (qh _ _ _ _) (Off.block J (by decide))),Z ((aa.grown (zaf ab) (Nat.le_of_lt M) (fun f ah=>by cases ah)).setCell (p:=⟨b,7,none⟩) (Nat.le_refl _) _)⟩
      case rest=>
      rename World=>s
      obtain ⟨z,A,bX,bY,dH,O⟩:=hcut;have aT:=zB (.slice dw 0 dx) [] s (Arr.of_owns (Below.owns dz (ag _ O)));have bZ:=Z aT;clear aT av bT bU;go_wp2_with (go_at_call 34;refine bZ.mono ?_;rw [show qN []=1 from rfl];rintro e aU ⟨rfl,rfl⟩);go_roundg 0
      case measure=>omega
      case rel=>exact ⟨1,_,Nat.le_refl _,rfl,by go_num,by go_num,fun h=>absurd h (by decide),bX,Z (fun _=>bY.out),dH,O⟩
     ·obtain rfl:k=1:=by omega
      clear au aQ;have b0:=Z (bR (Nat.le_refl _));go_wp2_with fail;go_roundg 0
      case measure=>omega
      case rel=>exact ⟨2,_,_,by omega,rfl,by go_num,fun h=>absurd h (by decide),fun h=>absurd h (by decide),I,Z (fun _=>b1.out),Z (fun _=>b0.out),aa⟩
   ·obtain rfl:j=2:=by omega
    have b2:=Z (bM (by decide));have b3:=Z (cO (by decide));obtain ⟨R,S,rfl,-,-⟩:=qg b2;obtain ⟨aV,aW,rfl,-,-⟩:=qg b3;clear bc aL aP cP k1 k2 k3 aN aO;go_wp2_with fail;have dI:=Z (show LowSt b (.slice (some ⟨q,0,none⟩) 3 t) (.slice (some ⟨r,0,none⟩) 1 y) (.slice (some ⟨n,0,none⟩) 1 u) (.slice (some ⟨o,0,none⟩) 1 v) x (.slice none 0 0) (.slice R 1 S) (.slice aV 1 aW) [] ⟨[], [],false⟩ [] (.slice none 0 0) wr from ⟨⟨bd,World.ownsRow_nil _ _ _ _,Nat.le_refl _,by decide⟩,⟨rfl,fun ev dJ=>absurd dJ (Nat.not_lt_zero _),fun ew E=>absurd E (by simp),List.nodup_nil⟩,⟨[],World.ownsRow_nil _ _ _ _,rfl,fun k bQ=>absurd bQ (Nat.not_lt_zero _)⟩,b2,b3,aC,fun be dK=>absurd dK (by simp)⟩);clear aA bd bM cO b2 b3;go_loopg [13,82] 3 (fun L cR dL i=>∃(f:Nat) (b4:Value) (T:List Nat) (p:LS) (U:List (List Nat)) (aD:Value),f≤3∧L=3-f∧cR= .int .i64 0∧dL= .int .i64 f∧(p,U)=zaY exG (exG.nodes.take f) ⟨[], [],false⟩ []∧Hid (LowSt b (.slice (some ⟨q,0,none⟩) 3 t) (.slice (some ⟨r,0,none⟩) 1 y) (.slice (some ⟨n,0,none⟩) 1 u) (.slice (some ⟨o,0,none⟩) 1 v) x b4 (.slice R 1 S) (.slice aV 1 aW) T p U aD i))
    case atStart=>exact ⟨0,_, [],_, [],_,by omega,rfl,rfl,rfl,rfl,dI⟩
    case round=>
     obtain ⟨f,b4,T,p,U,aD,ah,ex,rfl,rfl,aE,aX⟩:=hrel;rename World=>i
     have ai:=ag.out _ aX.low;have ey:=Z ai;have b5:=ai.size
     by_cases P:f<3
     ·obtain ⟨dM,dN,aF,aG,af,aH,aY,-,cS,cT,cU⟩:=ap.nodeV f P
      obtain ⟨rfl,rfl⟩:q=dM∧t=dN:=⟨by simp at aY;exact aY.1,by simp at aY;exact aY.2.2⟩;have aI:zcx (exG.nodes[f]'P)=false∧(zcs exG U p (exG.nodes[f]'P)).1.full=false:=by
       obtain rfl | rfl | rfl:f=0∨f=1∨f=2:=by omega
       all_goals (obtain ⟨rfl,rfl⟩:=Prod.mk.inj aE;exact ⟨rfl,rfl⟩)
      have b6:((zcs exG U p (exG.nodes[f]'P)).1,U++[(zcs exG U p (exG.nodes[f]'P)).2])=zaY exG (exG.nodes.take (f+1)) ⟨[], [],false⟩ []:=by
       obtain rfl | rfl | rfl:f=0∨f=1∨f=2:=by omega
       all_goals (obtain ⟨rfl,rfl⟩:=Prod.mk.inj aE;rfl)
      have bf:=fun (H:World) (E:Below i.heap.size i H)=>zoy (aX.later E) (ap.later (ai.trans (E.mono b5))) f P aE (.slice aF (exG.nodes[f]'P).shape.length aG) (.slice af (exG.nodes[f]'P).args.length aH) (Below.owns cS (ai.trans (E.mono b5))) (Below.owns cT (ai.trans (E.mono b5)))
      obtain ⟨g,aK⟩:∃g,exG.nodes[f]'P=g:=⟨_,rfl⟩;obtain ⟨⟨dO,bg⟩,cV⟩:∃dP,zcs exG U p (exG.nodes[f]'P)=dP:=⟨_,rfl⟩;rw [cV] at aI b6 bf;rw [aK] at aI bf cU;obtain ⟨aI,cW⟩:=aI;have aj:=fun dQ=>ai.cell (p:=⟨q,dQ,none⟩) dm
      obtain ⟨aq,ar,aZ,aB,a0,a1,a2⟩:=cU
      replace aq:=(aj _).trans aq
      replace ar:=(aj _).trans ar
      replace aZ:=(aj _).trans aZ
      replace aB:=(aj _).trans aB
      replace a0:=(aj _).trans a0
      replace a1:=(aj _).trans a1
      replace a2:=(aj _).trans a2
      have dR:=Z bf;have dS:=Z aI;have dT:=Z cW;have b7:=Z b6;have O:=Z (heap_alloc_new i (.cells #[.int .i64 g.kind,.slice aF g.shape.length aG,.slice af g.args.length aH,.int .i64 g.party,.int .i64 g.input,.int .i64 g.k,.slice none 0 0] 154));have b8:=Z ((Below.refl i.heap.size i).alloc (Nat.le_refl _) (.cells #[.int .i64 g.kind,.slice aF g.shape.length aG,.slice af g.args.length aH,.int .i64 g.party,.int .i64 g.input,.int .i64 g.k,.slice none 0 0] 154));have aA:(0:Int)≤(f:Int):=by omega
      have k3:(f:Int)<3:=by omega
      have bA:=Z (fun H=>zee g (.slice aF g.shape.length aG) (.slice af g.args.length aH) (.slice none 0 0) H ⟨_,_,_,rfl⟩ ⟨_,_,_,rfl⟩ ⟨_,_,_,rfl⟩);clear aj bf aI b6 cV aK cS cT aY ai aE cW;go_upto_region 24 with fail;generalize i.alloc (.cells #[.int .i64 g.kind,.slice aF g.shape.length aG,.slice af g.args.length aH,.int .i64 g.party,.int .i64 g.input,.int .i64 g.k,.slice none 0 0] 154)=ez at O b8 ⊢;obtain ⟨ac,b9⟩:∃ac,i.heap.size=ac:=⟨_,rfl⟩;have eA:=Z b9;rw [b9] at O ⊢;clear b9 aq ar aZ aB a0 a1 a2;obtain ⟨aq,ar,aZ,aB,a0,a1,a2⟩:=c7 O;go_upto_region 27 with (go_at_call 118;refine (bA _).mono ?_;rw [dS.out];rintro e aU ⟨rfl,ca⟩;have bh:=Z ((ca.block ac (qd O)).trans O);have cX:=Z (b8.trans (ca.mono b8.size));clear ca);have a3:=aX.later cX;have a4:=Z a3;obtain ⟨-,-,-,-,-,cY,-,-,-⟩:=a3.at_.all;obtain ⟨aN,aO,dU,dV,dW,dX,dY⟩:=c7 bh;have eB:=a3.at_.lt;have dZ:=frz a3.at_.blk 5;clear a3 aq ar aZ aB a0 a1 a2;go_cut [] from 94 to 106 (fun s=>∃(cZ:Value) (bi:List Nat) (aJ:Value),Hid (LowSt b (.slice (some ⟨q,0,none⟩) 3 t) (.slice (some ⟨r,0,none⟩) 1 y) (.slice (some ⟨n,0,none⟩) 1 u) (.slice (some ⟨o,0,none⟩) 1 v) x cZ (.slice R 1 S) (.slice aV 1 aW) (T++bi) dO (U++[bg]) aJ s))
      case first=>
       have c0:=Z (dR aU.drew cX.drew);refine rg (fun d0=>C7 d0 ac (.int .i64 g.kind) (.slice aF g.shape.length aG) (.slice af g.args.length aH) (.int .i64 g.party) (.int .i64 g.input) (.int .i64 g.k) (.slice none 0 0)) (c7 bh) (fun d=> ?_);refine tk 0 ?_;refine tk 1 ?_;refine tk 2 ?_;refine tk 3 ?_;refine tk 5 ?_;refine tk 6 ?_;refine tk 7 ?_;refine rd2 4 8 (fun c a=> ?_) (fun c a=> ?_)
       ·skip
        go_simp;refine a _ _ d (fun d=>nx ?_);clear a c;refine rd1 8 (fun c a=> ?_)
        (go_simp;go_at_call 122;refine c0.mono ?_;rintro e cb ⟨d1,bi,d2,rfl,D⟩;have ay:=D.mod.ty _ _ _ _ (show aU.drew.heap[ac]? =_ from bh) (by decide) (by decide) (by decide);have K:=Z ay;have bj:=Z D;obtain ⟨-,-,-,-,-,d3,-,-,-⟩:=D.at_.all;have cc:=D.at_.lt;have cd:=c7 ay;obtain ⟨m,V,ak,al⟩:=((a4.later (Below.refl _ _).drew).words.lmod D.mod);obtain ⟨az,wc,rfl,-,-⟩:=qg V;have W:=Z V;have bk:=Z ak;have bl:=Z al;obtain ⟨bm,bn,rfl,-,-⟩:=qg D.own;have bo:b≤cb.heap.size:=(Nat.le_of_lt cc);have d4:m.length≤3:=(by have:=congrArg (fun be=>be.2.length) b7;simp [zb0] at this;omega);clear ay D V ak al;(try dsimp only))
        refine a _ _ cd (fun d=>nx ?_);clear a c;refine rd1 9 (fun c a=> ?_);go_simp;refine a _ _ (c7 (QH _ K)) (fun d=>nx ?_);clear a c;refine rd1 10 (fun c a=> ?_)
        (refine yU (by rfl) _ _ 245 (by rfl) 249 _ 1 24 underlying245 zep rfl (by decide) #[.slice bm bg.length bn] m.length b (.slice az m.length wc) m W (by rfl) (by rfl) rfl (by simp [Value.oneCell']) bo (by omega) (by unfold maxLen;omega) ?_;intro c1 c2 a5 am Q;obtain ⟨F,an⟩:=(a4.later (Below.refl _ _).drew).push bj W bk bl Q am;have c3:a5.cell? ⟨b,5,none⟩=some (.slice az m.length wc):=(by simp [World.cell?,F]);have c4:=frz F 5;have G:=(Q.block _ (qd K) (fun e=>yz W K (by decide) e.symm)).trans K;have ao:=Z G;have a6:=Z an;have a7:ac≠b:=(fun e=>by rw [e,F] at G;simp at G);clear am Q F an G;(try dsimp only))
        refine a _ _ (c7 ao) (fun d=>nx ?_);clear a c;refine tk 11 ?_;refine tk 12 ?_;refine rd1 13 (fun c a=> ?_);go_simp;refine a _ _ (c7 ((qe a7 _).trans ao)) (fun d=>nx ?_);clear a c;refine dn ?_;go_wp2_with fail;go_meet;exact ⟨_,_,_,a6⟩
       ·skip
        (go_simp;go_at_call 122;refine c0.mono ?_;rintro e cb ⟨d1,bi,d2,rfl,D⟩;have ay:=D.mod.ty _ _ _ _ (show aU.drew.heap[ac]? =_ from bh) (by decide) (by decide) (by decide);have K:=Z ay;have bj:=Z D;obtain ⟨-,-,-,-,-,d3,-,-,-⟩:=D.at_.all;have cc:=D.at_.lt;have cd:=c7 ay;obtain ⟨m,V,ak,al⟩:=((a4.later (Below.refl _ _).drew).words.lmod D.mod);obtain ⟨az,wc,rfl,-,-⟩:=qg V;have W:=Z V;have bk:=Z ak;have bl:=Z al;obtain ⟨bm,bn,rfl,-,-⟩:=qg D.own;have bo:b≤cb.heap.size:=(Nat.le_of_lt cc);have d4:m.length≤3:=(by have:=congrArg (fun be=>be.2.length) b7;simp [zb0] at this;omega);clear ay D V ak al;(try dsimp only))
        refine a _ _ cd (fun d=>nx ?_);clear a c;refine rd2 4 9 (fun c a=> ?_) (fun c a=> ?_)
        ·skip
         go_simp;refine a _ _ d (fun d=>nx ?_);clear a c;refine rd1 9 (fun c a=> ?_);go_simp;refine a _ _ (c7 (QH _ K)) (fun d=>nx ?_);clear a c;refine rd1 10 (fun c a=> ?_)
         (refine yU (by rfl) _ _ 245 (by rfl) 249 _ 1 24 underlying245 zep rfl (by decide) #[.slice bm bg.length bn] m.length b (.slice az m.length wc) m W (by rfl) (by rfl) rfl (by simp [Value.oneCell']) bo (by omega) (by unfold maxLen;omega) ?_;intro c1 c2 a5 am Q;obtain ⟨F,an⟩:=(a4.later (Below.refl _ _).drew).push bj W bk bl Q am;have c3:a5.cell? ⟨b,5,none⟩=some (.slice az m.length wc):=(by simp [World.cell?,F]);have c4:=frz F 5;have G:=(Q.block _ (qd K) (fun e=>yz W K (by decide) e.symm)).trans K;have ao:=Z G;have a6:=Z an;have a7:ac≠b:=(fun e=>by rw [e,F] at G;simp at G);clear am Q F an G;(try dsimp only))
         refine a _ _ (c7 ao) (fun d=>nx ?_);clear a c;refine tk 11 ?_;refine tk 12 ?_;refine rd1 13 (fun c a=> ?_);go_simp;refine a _ _ (c7 ((qe a7 _).trans ao)) (fun d=>nx ?_);clear a c;refine dn ?_;go_wp2_with fail;go_meet;exact ⟨_,_,_,a6⟩
        ·skip
         go_simp;refine a _ _ (c7 (QH _ K)) (fun d=>nx ?_);clear a c;refine rd1 4 (fun c a=> ?_);go_simp;refine a _ _ d (fun d=>nx ?_);clear a c;refine rd1 10 (fun c a=> ?_)
         (refine yU (by rfl) _ _ 245 (by rfl) 249 _ 1 24 underlying245 zep rfl (by decide) #[.slice bm bg.length bn] m.length b (.slice az m.length wc) m W (by rfl) (by rfl) rfl (by simp [Value.oneCell']) bo (by omega) (by unfold maxLen;omega) ?_;intro c1 c2 a5 am Q;obtain ⟨F,an⟩:=(a4.later (Below.refl _ _).drew).push bj W bk bl Q am;have c3:a5.cell? ⟨b,5,none⟩=some (.slice az m.length wc):=(by simp [World.cell?,F]);have c4:=frz F 5;have G:=(Q.block _ (qd K) (fun e=>yz W K (by decide) e.symm)).trans K;have ao:=Z G;have a6:=Z an;have a7:ac≠b:=(fun e=>by rw [e,F] at G;simp at G);clear am Q F an G;(try dsimp only))
         refine a _ _ (c7 ao) (fun d=>nx ?_);clear a c;refine tk 11 ?_;refine tk 12 ?_;refine rd1 13 (fun c a=> ?_);go_simp;refine a _ _ (c7 ((qe a7 _).trans ao)) (fun d=>nx ?_);clear a c;refine dn ?_;go_wp2_with fail;go_meet;exact ⟨_,_,_,a6⟩
      case rest=>
      obtain ⟨cZ,bi,aJ,c5⟩:=hcut;obtain ⟨-,-,-,-,-,-,-,-,c6⟩:=c5.at_.all;rw [dT.out] at c6;clear cY dZ aN aO dU dV dW dX dY;go_wp2_with fail;go_roundg (3-(f+1))
      case measure=>omega
      case rel=>exact ⟨f+1,_,_,_,_,_,by omega,rfl,rfl,by go_num,b7,c5⟩
     ·obtain rfl:f=3:=by omega
      obtain ⟨rfl,rfl⟩:p=⟨[⟨1,0,0,0,0,0⟩,⟨1,0,0,0,0,1⟩,⟨6,0,1,0,0,0⟩], [(0,-1),(1,-1),(2,-1)],false⟩∧U=[[0], [1], [2]]:=Prod.mk.inj aE;have aM:=(aX.low.block w.heap.size bL).trans bB;obtain ⟨-,eC,-,-⟩:=QK aM;clear aE aM P ai;go_wp2_with fail;go_loopg [17,122] 1 (fun L ce d5 wr=>∃(j:Nat) (p:LS) (aD:Value),j≤1∧L=1-j∧ce= .int .i64 j∧d5= .int .i64 j∧(j=0→p=⟨[⟨1,0,0,0,0,0⟩,⟨1,0,0,0,0,1⟩,⟨6,0,1,0,0,0⟩], [(0,-1),(1,-1),(2,-1)],false⟩)∧(j=1→p=⟨[⟨1,0,0,0,0,0⟩,⟨1,0,0,0,0,1⟩,⟨6,0,1,0,0,0⟩,⟨18,2,0,0,0,0⟩], [(0,-1),(1,-1),(2,-1)],false⟩)∧Hid (LowSt b (.slice (some ⟨q,0,none⟩) 3 t) (.slice (some ⟨r,0,none⟩) 1 y) (.slice (some ⟨n,0,none⟩) 1 u) (.slice (some ⟨o,0,none⟩) 1 v) x b4 (.slice R 1 S) (.slice aV 1 aW) T p [[0], [1], [2]] aD wr))
      case atStart=>exact ⟨0,_,_,by omega,rfl,rfl,rfl,fun _=>rfl,fun h=>absurd h (by decide),aX⟩
      case round=>
       obtain ⟨j,p,aD,dD,dE,rfl,rfl,cf,cg,ad⟩:=hrel;rename World=>bp
       have ch:=Z (ag _ ad.low)
       by_cases aP:j=0
       ·subst aP
        have d6:=cf rfl;subst d6;have eD:=(ch.cell (p:=⟨r,0,none⟩) dp).trans dq;obtain ⟨m,V,ak,al⟩:=ad.words;have d7:m.length=3:=ak;obtain ⟨d8,wc,c8,-,-,-,c9,-,-⟩:=zm V 2 (by omega);rw [d7] at c8;subst c8;rw [List.getElem?_eq_getElem (by omega)] at c9;have ci:bp.ownsRow b 251 1 (m[2]'(by omega)) 1 (zdf T [2]):=al 2 (by omega) (show 2<3 by decide);generalize m[2]'(by omega)=eE at c9 ci;obtain ⟨d9,eF,rfl,-,-,-,da,-,-⟩:=zm ci 0 (by decide);have ea:T.length=3:=ad.tab.len;have db:T.getD 2 0=T[2]'(by omega):=by simp [List.getD,ea]
        have eG:bp.cell? ⟨d9,0,none⟩=some (.pointer (some ⟨T[2]'(by omega),0,none⟩)):=by rw [da];simp only [zdf,List.map_cons,db];rfl
        obtain ⟨-,-,-,-,-,cY,-,-,-⟩:=ad.at_.all;have eb:=Z (zld (s:=⟨[⟨1,0,0,0,0,0⟩,⟨1,0,0,0,0,1⟩,⟨6,0,1,0,0,0⟩], [(0,-1),(1,-1),(2,-1)],false⟩) ad.tab 2 (by omega));clear V ak al da ci cf cg db;rw [show ((0:Nat):Int)=0 from rfl];go_wp2_with fail;go_loopg [17,134] 1 (fun L ce ec s=>∃(ae:Nat) (p:LS) (aJ:Value),ae≤1∧L=1-ae∧ce= .int .i64 ae∧ec= .int .i64 ae∧(ae=0→p=⟨[⟨1,0,0,0,0,0⟩,⟨1,0,0,0,0,1⟩,⟨6,0,1,0,0,0⟩], [(0,-1),(1,-1),(2,-1)],false⟩∧s=bp∧aJ=aD)∧(ae=1→p=⟨[⟨1,0,0,0,0,0⟩,⟨1,0,0,0,0,1⟩,⟨6,0,1,0,0,0⟩,⟨18,2,0,0,0,0⟩], [(0,-1),(1,-1),(2,-1)],false⟩)∧Hid (LowSt b (.slice (some ⟨q,0,none⟩) 3 t) (.slice (some ⟨r,0,none⟩) 1 y) (.slice (some ⟨n,0,none⟩) 1 u) (.slice (some ⟨o,0,none⟩) 1 v) x (.slice (some ⟨d8,0,none⟩) 3 wc) (.slice R 1 S) (.slice aV 1 aW) T p [[0], [1], [2]] aJ s))
        case atStart=>exact ⟨0,_,_,by omega,rfl,rfl,rfl,fun _=>⟨rfl,rfl,rfl⟩,fun h=>absurd h (by decide),ad⟩
        case round=>
         obtain ⟨ae,p,aJ,eH,eI,rfl,rfl,cj,ck,cl⟩:=hrel
         by_cases dc:ae=0
         ·subst dc
          obtain ⟨rfl,rfl,rfl⟩:=cj rfl;clear cj ck;rw [show ((0:Nat):Int)=0 from rfl];have ed:=Z (zgE (s:=⟨[⟨1,0,0,0,0,0⟩,⟨1,0,0,0,0,1⟩,⟨6,0,1,0,0,0⟩], [(0,-1),(1,-1),(2,-1)],false⟩) cl.at_ ⟨18,2,0,0,0,0⟩);go_wp2_with (first | (go_at_call 124;refine ed.mono ?_;rintro e eJ ⟨rfl,dd,eK,de⟩;have ee:=Z (cl.op (s':=⟨[⟨1,0,0,0,0,0⟩,⟨1,0,0,0,0,1⟩,⟨6,0,1,0,0,0⟩,⟨18,2,0,0,0,0⟩], [(0,-1),(1,-1),(2,-1)],false⟩) dd de rfl);clear dd de) | (go_at_call 123;refine eb.mono ?_;rw [show zbE ⟨[⟨1,0,0,0,0,0⟩,⟨1,0,0,0,0,1⟩,⟨6,0,1,0,0,0⟩], [(0,-1),(1,-1),(2,-1)],false⟩ 2=(2,0) from rfl];rintro e eL ⟨rfl,rfl⟩));go_roundg 0
          case measure=>omega
          case rel=>exact ⟨1,_,_,Nat.le_refl _,rfl,by go_num,by go_num,fun h=>absurd h (by decide),fun _=>rfl,ee⟩
         ·obtain rfl:ae=1:=by omega
          have cm:=ck rfl;subst cm;clear cj ck dc;go_wp2_with fail;go_roundg 0
          case measure=>omega
          case rel=>exact ⟨1,_,_,Nat.le_refl _,rfl,by go_num,by go_num,fun h=>absurd h (by decide),fun _=>rfl,cl⟩
       ·obtain rfl:j=1:=by omega
        have cm:=cg rfl;subst cm;clear cf cg aP;obtain ⟨-,-,-,-,eM,-,-,-,c6⟩:=ad.at_.all;obtain ⟨eN,eO,rfl,-,-⟩:=qg ad.at_.own;have cn:=zhR _ exL bp (Arr.of_owns ad.at_.own) zmx (by decide);rw [zi4] at cn;have ef:=Z cn;clear cn;go_wp2_with (first | (go_at_call 125;refine (zjh _ exL eg (Arr.of_owns eh) zhx (cv.below bq) zmx (by decide) (by rw [zej];rfl) zpp).mono ?_;rintro e eP ⟨eQ,rfl,df,dg⟩;have ei:=Z df;have ej:=Z dg;clear df dg) | (go_at_call 126;refine ef.mono ?_;rintro e eg ⟨cR,rfl,co,dh⟩;obtain ⟨eR,eS,rfl,-,-⟩:=qg co;have eh:=Z co;have bq:=Z (ch.trans (dh.mono ch.size));clear co dh));go_ret2;refine ⟨_,rfl,?_,bq.trans (ej.mono bq.size)⟩;rw [zn8];exact qk ei bq.size
end Go.Proofs.YtklofgfkaaoipaaGreatDoor
