import Derived.Test.YtjeekocidaogoaaGreatDoorK7Mut
import Derived.Test.YtjeekocidaogoaaGreatDoorK7PsG
import Derived.Test.YtjeekocidaogoaaGreatDoorProg
import Derived.KernelRfl
import Derived.Deep.LoopGhost
import Derived.Deep.QuietTactic
import Derived.Deep.RegionLaw
import Derived.BigQuiet
import Derived.Test.YtjeekocidaogoaaGreatDoorK7Addr
import Derived.Test.YtjeekocidaogoaaGreatDoorK7Atoms
import Derived.Test.YtjeekocidaogoaaGreatDoorK7Hx5
import Derived.Test.YtjeekocidaogoaaGreatDoorK7Hx9
set_option linter.unusedVariables false
set_option linter.unusedSimpArgs false
set_option maxRecDepth 100000
set_option maxHeartbeats 8000000
open Go.Proofs.Tryz
namespace Go.Proofs.YtjeekocidaogoaaGreatDoor.H
open Go.RowKit Go.Proofs.YtjeekocidaogoaaGreatDoor.Hand Go.Proofs.YtjeekocidaogoaaGreatDoorW.PrintWords Go.Proofs.YtjeekocidaogoaaGreatDoorW.PrintLast Go.Proofs.YtjeekocidaogoaaGreatDoorW.PrintMore
section
theorem zsy {W:World} {b i c:Nat} {A:Option Addr} {l:List S47} (h:Row W b 47 2 (.slice A l.length c) l.length (zqr l)) (hi:i<l.length):∃ g,A=some ⟨g,0,none⟩/\W.cell? ⟨g,i*2,none⟩=some (.int .i64 l[i].f0)/\W.cell? ⟨g,i*2+1,none⟩=some (.int .i64 l[i].f1):=by
 obtain ⟨A',c',e,-,hg⟩:=h.form;injection e with n o p;subst n;obtain ⟨g,cur,rfl,j,-⟩:=hg kab;have d:=qao hi;exact ⟨g,rfl,h.cell j (i*2+0) _ (zod l i _ d 0 kad),h.cell j _ _ (zod l i _ d 1 kad)⟩
theorem zsr {W:World} {b i c:Nat} {A:Option Addr} {l:List S68} (h:Row W b 68 2 (.slice A l.length c) l.length (zqo l)) (hi:i<l.length):∃ g,A=some ⟨g,0,none⟩/\W.cell? ⟨g,i*2,none⟩=some (.int .i64 l[i].f0)/\W.cell? ⟨g,i*2+1,none⟩=some (.int .i64 l[i].f1):=by
 obtain ⟨A',c',e,-,hg⟩:=h.form;injection e with n o p;subst n;obtain ⟨g,cur,rfl,j,-⟩:=hg kab;have d:=qao hi;exact ⟨g,rfl,h.cell j (i*2+0) _ (znx l i _ d 0 kad),h.cell j _ _ (znx l i _ d 1 kad)⟩
theorem zsp {W:World} {b i c:Nat} {A:Option Addr} {l:List ByteArray} (h:Row W b 9 1 (.slice A l.length c) l.length (zic l)) (hi:i<l.length):∃ g,A=some ⟨g,0,none⟩/\W.cell? ⟨g,i,none⟩=some (.string l[i]):=by
 obtain ⟨A',c',e,-,hg⟩:=h.form;injection e with d n o;subst d;obtain ⟨g,cur,rfl,j,-⟩:=hg kab;exact ⟨g,rfl,h.cell j i _ (by rw [zic,List.getElem?_map,qao hi];rfl)⟩
theorem zuw {W:World} {b i c:Nat} {A:Option Addr} {l:List S60} {cells:List Value} {L:List Nat} (h:Row W b 60 8 (.slice A l.length c) l.length cells) (hf:Forest W b l cells L) (hi:i<l.length) :
  ∃ g j n o p M,A=some ⟨g,0,none⟩/\(W.cell? ⟨g,i*8,none⟩=some (.int .i64 l[i].f0)/\W.cell? ⟨g,i*8+1,none⟩=some (.string l[i].f1)/\W.cell? ⟨g,i*8+2,none⟩=some (.string l[i].f2)/\W.cell? ⟨g,i*8+3,none⟩=some j/\W.cell? ⟨g,i*8+4,none⟩=some n/\W.cell? ⟨g,i*8+5,none⟩=some o/\W.cell? ⟨g,i*8+6,none⟩=some p/\W.cell? ⟨g,i*8+7,none⟩=some (.int .i64 l[i].f7)) /\
   Tree W b l[i] [.int .i64 l[i].f0,.string l[i].f1,.string l[i].f2,j,n,o,p,.int .i64 l[i].f7] M:=by
 obtain ⟨A',c',e,-,hg⟩:=h.form;injection e with q B D;subst q;obtain ⟨g,cur,rfl,w,-⟩:=hg kab;obtain ⟨ds,M,ht,hr,-⟩:=hf.at i hi;obtain ⟨j,n,o,p,z,y,rfl,-⟩:=ht.open_;have d:∀ r u,r<8->[Value.int .i64 l[i].f0,.string l[i].f1,.string l[i].f2,j,n,o,p,.int .i64 l[i].f7][r]?=some u->W.cell? ⟨g,i*8+r,none⟩=some u:=fun r u x hu=>h.cell w _ u ((hr r x).trans hu);exact ⟨g,j,n,o,p,M,rfl,⟨d 0 _ kad rfl,d 1 _ kad rfl,d 2 _ kad rfl,d 3 _ kad rfl,d 4 _ kad rfl,d 5 _ kad rfl,d 6 _ kad rfl,d 7 _ kad rfl⟩,ht⟩
theorem Tree.rows {W wr:World} {b:Nat} {x:S60} {f0 f7:Int} {f1 f2:ByteArray} {v3 v4 v5 d:Value} {L:List Nat} (h:Tree W b x [.int .i64 f0,.string f1,.string f2,v3,v4,v5,d,.int .i64 f7] L) (n:Below W.heap.size W wr) :
  ∃ cells M,Row wr b 47 2 v3 x.f3.length (zqr x.f3)/\Row wr b 68 2 v4 x.f4.length (zqo x.f4)/\Row wr b 9 1 v5 x.f5.length (zic x.f5)/\Row wr b 60 8 d x.f6.length cells/\Forest wr b x.f6 cells M:=by
 have ht:=h.frame (w1:=wr) fun g hg=>n.block g (h.lt g hg).2;obtain ⟨q,r,u,w,j,i,e,-,r3,r4,o,p,hf⟩:=ht.open_;simp only [List.cons.injEq] at e;obtain ⟨-,-,-,rfl,rfl,rfl,rfl,-⟩:=e;exact ⟨j,i,r3,r4,o,p,hf⟩
theorem ztd {k n:Nat} (h:k<n):n-(intOf (.int .i64 ((k:Int)+1))).toNat<n-(intOf (.int .i64 (k:Int))).toNat:=by simp [intOf];omega
theorem zuk:∀ {l:List S60} {i:Nat} (h:i<l.length),wt l[i]<=wtL l
 | a::l,0,_=>by rw [wtL];exact Nat.le_add_right _ _
 | a::l,i+1,h=>by
  have:=zuk (l:=l) (i:=i) (by simpa using h);rw [wtL];exact qas this (Nat.le_add_left _ _)
theorem kid_le {x:S60} {n i:Nat} (h:wt x=1+x.f3.length+x.f4.length+x.f5.length+wtL x.f6) (hn:wt x<=n+1) (hi:i<x.f6.length):wt x.f6[i]<=n:=by
 have:=zuk hi;omega
theorem conds_true:∀ (n:Nat) (x:S60) (W:World) (b b':Nat) (cs cs':List Value) (L L':List Nat),wt x<=n->n<=100000->Tree W b x cs L->Tree W b' x cs' L' ->
  Calls prog 35 #[.agg cs.toArray,.agg cs'.toArray] W fun e w'=>e = .returned (.bool true)/\Below W.heap.size W w':=by
 intro n;induction n with
 | zero=>intro x W b b' cs cs' L L' h;have:=zrc x;omega
 | succ n ih=>
  intro x W b b' cs cs' L L' hn aB ht ad;have hW:=znt x;have aC:=zjr x.f6;obtain ⟨v3,v4,v5,v6,aH,aF,rfl,-,r3,r4,p,q,-⟩:=ht.open_;obtain ⟨u3,u4,u5,u6,aI,aG,rfl,-,r,u,y,z,-⟩:=ad.open_;obtain ⟨J,c3,rfl,-,-⟩:=r3.form;obtain ⟨M,c4,rfl,-,-⟩:=r4.form;obtain ⟨A5,c5,rfl,-,-⟩:=p.form;obtain ⟨A6,c6,rfl,-,-⟩:=q.form;obtain ⟨B3,d3,rfl,-,-⟩:=r.form;obtain ⟨O,d4,rfl,-,-⟩:=u.form;obtain ⟨U,d5,rfl,-,-⟩:=y.form;obtain ⟨X,d6,rfl,-,-⟩:=z.form;have a8:=((qan W.heap.size W).alloc (qad _) (.cells #[.int .i64 x.f0,.string x.f1,.string x.f2,.slice J x.f3.length c3,.slice M x.f4.length c4,.slice A5 x.f5.length c5,.slice A6 x.f6.length c6,.int .i64 x.f7] 60)).alloc (by simp) (.cells #[.int .i64 x.f0,.string x.f1,.string x.f2,.slice B3 x.f3.length d3,.slice O x.f4.length d4,.slice U x.f5.length d5,.slice X x.f6.length d6,.int .i64 x.f7] 60);have hx:=zaf (qab W (.cells #[.int .i64 x.f0,.string x.f1,.string x.f2,.slice J x.f3.length c3,.slice M x.f4.length c4,.slice A5 x.f5.length c5,.slice A6 x.f6.length c6,.int .i64 x.f7] 60)) (.cells #[.int .i64 x.f0,.string x.f1,.string x.f2,.slice B3 x.f3.length d3,.slice O x.f4.length d4,.slice U x.f5.length d5,.slice X x.f6.length d6,.int .i64 x.f7] 60);have hy:=qab (W.alloc (.cells #[.int .i64 x.f0,.string x.f1,.string x.f2,.slice J x.f3.length c3,.slice M x.f4.length c4,.slice A5 x.f5.length c5,.slice A6 x.f6.length c6,.int .i64 x.f7] 60)) (.cells #[.int .i64 x.f0,.string x.f1,.string x.f2,.slice B3 x.f3.length d3,.slice O x.f4.length d4,.slice U x.f5.length d5,.slice X x.f6.length d6,.int .i64 x.f7] 60);rw [qae] at hy;have j:=zq a8;have HX:=zq (And.intro hx hy);have A:=zq (And.intro ht ad);have Z:=zq (And.intro hW (And.intro aC (And.intro hn aB)));have aD:=zq ih;have l3:x.f3.length<=100000:=kab;have l4:x.f4.length<=100000:=kab;have l5:x.f5.length<=100000:=kab;have l6:x.f6.length<=100000:=kab;have HB:=zq (qan ((W.alloc (.cells #[.int .i64 x.f0,.string x.f1,.string x.f2,.slice J x.f3.length c3,.slice M x.f4.length c4,.slice A5 x.f5.length c5,.slice A6 x.f6.length c6,.int .i64 x.f7] 60)).alloc (.cells #[.int .i64 x.f0,.string x.f1,.string x.f2,.slice B3 x.f3.length d3,.slice O x.f4.length d4,.slice U x.f5.length d5,.slice X x.f6.length d6,.int .i64 x.f7] 60)).heap.size ((W.alloc (.cells #[.int .i64 x.f0,.string x.f1,.string x.f2,.slice J x.f3.length c3,.slice M x.f4.length c4,.slice A5 x.f5.length c5,.slice A6 x.f6.length c6,.int .i64 x.f7] 60)).alloc (.cells #[.int .i64 x.f0,.string x.f1,.string x.f2,.slice B3 x.f3.length d3,.slice O x.f4.length d4,.slice U x.f5.length d5,.slice X x.f6.length d6,.int .i64 x.f7] 60)));clear a8 hx hy ht ad hW aC hn aB ih r3 r4 p q r u y z;go_enter func35,ntmps35;go_upto_region 3 with fail;generalize aE:((W.alloc (.cells #[.int .i64 x.f0,.string x.f1,.string x.f2,.slice J x.f3.length c3,.slice M x.f4.length c4,.slice A5 x.f5.length c5,.slice A6 x.f6.length c6,.int .i64 x.f7] 60)).alloc (.cells #[.int .i64 x.f0,.string x.f1,.string x.f2,.slice B3 x.f3.length d3,.slice O x.f4.length d4,.slice U x.f5.length d5,.slice X x.f6.length d6,.int .i64 x.f7] 60))=W1 at j HX HB ⊢;clear aE;go_wp2
  go_loopw [5] (fun v w=>∃ i:Nat,i<=x.f3.length/\v = .int .i64 i/\Zq (Below W1.heap.size W1 w)) (fun v _=>x.f3.length-(intOf v).toNat)
  case atStart=>exact ⟨0,qbx _,rfl,HB⟩
  case round=>
   clear HB;obtain ⟨i,hi,rfl,HB⟩:=hrel;have G:=zab (zaq HX.o.1 HB.o) 3;have I:=zab (zaq HX.o.2 HB.o) 3;simp only [qaj,qag,qaw] at G I;by_cases d:i<x.f3.length
   ·obtain ⟨kc,kM,r3,r4,p,q,B⟩:=A.o.1.rows (j.o.trans (HB.o.mono j.o.size));obtain ⟨a1,af,r,u,y,z,D⟩:=A.o.2.rows (j.o.trans (HB.o.mono j.o.size));obtain ⟨ga,rfl,p0,p1⟩:=zsy r3 d;obtain ⟨gb,rfl,q0,q1⟩:=zsy r d;clear r3 r4 p q B r u y z D;go_wp2
    go_quiet (fail)
    go_wp2
    go_roundw
    case rel=>exact ⟨i+1,d,by first|rfl|go_num,⟨zaa HB.o _⟩⟩
    case measure=>exact ztd d
   have E:i=x.f3.length:=qcd hi (qca d);subst E;clear hi d;go_wp2
   go_loopw [6] (fun v w=>∃ i:Nat,i<=x.f4.length/\v = .int .i64 i/\Zq (Below W1.heap.size W1 w)) (fun v _=>x.f4.length-(intOf v).toNat)
   case atStart=>exact ⟨0,qbx _,rfl,HB⟩
   case round=>
    clear HB;obtain ⟨i,hi,rfl,HB⟩:=hrel;have G:=zab (zaq HX.o.1 HB.o) 4;have I:=zab (zaq HX.o.2 HB.o) 4;simp only [qaj,qag,qaw] at G I;by_cases d:i<x.f4.length
    ·obtain ⟨kc,kM,r3,r4,p,q,B⟩:=A.o.1.rows (j.o.trans (HB.o.mono j.o.size));obtain ⟨a1,af,r,u,y,z,D⟩:=A.o.2.rows (j.o.trans (HB.o.mono j.o.size));obtain ⟨ga,rfl,p0,p1⟩:=zsr r4 d;obtain ⟨gb,rfl,q0,q1⟩:=zsr u d;clear r3 r4 p q B r u y z D;go_wp2
     go_quiet (fail)
     go_wp2
     go_roundw
     case rel=>exact ⟨i+1,d,by first|rfl|go_num,⟨zaa HB.o _⟩⟩
     case measure=>exact ztd d
    have E:i=x.f4.length:=qcd hi (qca d);subst E;clear hi d;go_wp2
    go_loopw [7] (fun v w=>∃ i:Nat,i<=x.f5.length/\v = .int .i64 i/\Zq (Below W1.heap.size W1 w)) (fun v _=>x.f5.length-(intOf v).toNat)
    case atStart=>exact ⟨0,qbx _,rfl,HB⟩
    case round=>
     clear HB;obtain ⟨i,hi,rfl,HB⟩:=hrel;have G:=zab (zaq HX.o.1 HB.o) 5;have I:=zab (zaq HX.o.2 HB.o) 5;simp only [qaj,qag,qaw] at G I;by_cases d:i<x.f5.length
     ·obtain ⟨kc,kM,r3,r4,p,q,B⟩:=A.o.1.rows (j.o.trans (HB.o.mono j.o.size));obtain ⟨a1,af,r,u,y,z,D⟩:=A.o.2.rows (j.o.trans (HB.o.mono j.o.size));obtain ⟨ga,rfl,p0⟩:=zsp p d;obtain ⟨gb,rfl,q0⟩:=zsp y d;clear r3 r4 p q B r u y z D;go_wp2
      go_quiet (fail)
      go_wp2
      go_roundw
      case rel=>exact ⟨i+1,d,by first|rfl|go_num,⟨zaa HB.o _⟩⟩
      case measure=>exact ztd d
     have E:i=x.f5.length:=qcd hi (qca d);subst E;clear hi d;go_wp2
     go_loopw [8] (fun v w=>∃ i:Nat,i<=x.f6.length/\v = .int .i64 i/\Zq (Below W1.heap.size W1 w)) (fun v _=>x.f6.length-(intOf v).toNat)
     case atStart=>exact ⟨0,qbx _,rfl,HB⟩
     case round=>
      clear HB;obtain ⟨i,hi,rfl,HB⟩:=hrel;have G:=zab (zaq HX.o.1 HB.o) 6;have I:=zab (zaq HX.o.2 HB.o) 6;simp only [qaj,qag,qaw] at G I;by_cases d:i<x.f6.length
      ·obtain ⟨kc,kM,r3,r4,p,q,B⟩:=A.o.1.rows (j.o.trans (HB.o.mono j.o.size));obtain ⟨a1,af,r,u,y,z,D⟩:=A.o.2.rows (j.o.trans (HB.o.mono j.o.size));obtain ⟨ga,q3,q4,q5,q6,M1,rfl,⟨p0,p1,p2,p3,p4,p5,p6,p7⟩,a6⟩:=zuw q B d;obtain ⟨gb,t3,t4,t5,t6,M2,rfl,⟨m0,m1,m2,m3,m4,m5,m6,m7⟩,a7⟩:=zuw z D d;have HC:=zq (fun w (h:w.heap=wr.heap)=>aD.o x.f6[i] w _ _ _ _ _ _ (kid_le Z.o.1 Z.o.2.2.1 d) (Nat.le_of_succ_le Z.o.2.2.2) (a6.frame fun g _=>by rw [h]) (a7.frame fun g _=>by rw [h]));clear r3 r4 p q B r u y z D a6 a7;go_wp2;go_region_law (go_simp;go_at_call 35;(first|refine (HC.o (World.drew wr) rfl).mono ?_|refine (HC.o wr rfl).mono ?_);rintro e2 w2 ⟨rfl,Y⟩;have aA:Below wr.heap.size wr w2:=⟨Y.os,Y.tape,Y.output,Y.size,Y.block⟩;have aj:=zq (HB.o.trans (aA.mono HB.o.size));clear Y aA);all_goals (go_wp2;go_roundw;(case rel=>exact ⟨i+1,d,by first|rfl|go_num,aj⟩);(case measure=>exact ztd d))
      have E:i=x.f6.length:=qcd hi (qca d);subst E;clear hi d;go_wp2;go_ret;exact ⟨rfl,j.o.trans (HB.o.mono j.o.size)⟩
end
section
theorem zex.at_ {W:World} {b:Nat}:∀ {l:List S62} {cs:List Value} {L:List Nat},zex W b l cs L->∀ (i:Nat) (hi:i<l.length),∃ ds M,Tree W b l[i].f2 ds M/\cs[i*11]?=some (.int .i64 l[i].f0)/\cs[i*11+1]?=some (.string l[i].f1)/\(∀ r,r<8->cs[i*11+(2+r)]?=ds[r]?)/\cs[i*11+10]?=some (.int .i64 l[i].f3)
 | [],_,_,_,i,hi=>by simp at hi
 | x::l,cs,L,⟨ds,ts,M,N,ht,hr,w,_⟩,i,hi=>by
  have e:=ht.length;subst w
  match i with
  | 0=>
   refine ⟨ds,M,ht,rfl,rfl,fun r j=>?_,?_⟩
   ·rw [qbl,qbl,qbd (by simp),qbg kbl];congr 1;simp
   rw [qbg kbl,qbd kbl];simp [e]
  | i+1=>
   obtain ⟨es,K,h1,n,o,q,u⟩:=zex.at_ hr i (by simpa using hi);have d:∀ p,(([Value.int .i64 x.f0,Value.string x.f1]:List Value)++ds++[Value.int .i64 x.f3]++ts)[11+p]?=ts[p]?:=fun p=>by
    rw [qbd kbl];congr 1;simp [e]
   refine ⟨es,K,h1,?_,?_,fun r j=>?_,?_⟩
   ·rw [show (i+1)*11=11+i*11 by omega,d];exact n
   ·rw [show (i+1)*11+1=11+(i*11+1) by omega,d];exact o
   ·rw [show (i+1)*11+(2+r)=11+(i*11+(2+r)) by omega,d];exact q r j
   rw [show (i+1)*11+10=11+(i*11+10) by omega,d];exact u
theorem zte {W:World} {b i c:Nat} {A:Option Addr} {l:List S62} {cells:List Value} {L:List Nat} (h:Row W b 62 11 (.slice A l.length c) l.length cells) (hf:zex W b l cells L) (hi:i<l.length) :
  ∃ g j n o p M,A=some ⟨g,0,none⟩/\(W.cell? ⟨g,i*11,none⟩=some (.int .i64 l[i].f0)/\W.cell? ⟨g,i*11+1,none⟩=some (.string l[i].f1)/\W.cell? ⟨g,i*11+2,none⟩=some (.int .i64 l[i].f2.f0)/\W.cell? ⟨g,i*11+3,none⟩=some (.string l[i].f2.f1)/\W.cell? ⟨g,i*11+4,none⟩=some (.string l[i].f2.f2)/\W.cell? ⟨g,i*11+5,none⟩=some j/\W.cell? ⟨g,i*11+6,none⟩=some n/\W.cell? ⟨g,i*11+7,none⟩=some o/\W.cell? ⟨g,i*11+8,none⟩=some p/\W.cell? ⟨g,i*11+9,none⟩=some (.int .i64 l[i].f2.f7)/\W.cell? ⟨g,i*11+10,none⟩=some (.int .i64 l[i].f3)) /\
   Tree W b l[i].f2 [.int .i64 l[i].f2.f0,.string l[i].f2.f1,.string l[i].f2.f2,j,n,o,p,.int .i64 l[i].f2.f7] M:=by
 obtain ⟨A',c',e,-,hg⟩:=h.form;injection e with w E G;subst w;obtain ⟨g,cur,rfl,q,-⟩:=hg kab;obtain ⟨ds,M,ht,x,h1,hr,y⟩:=hf.at_ i hi;obtain ⟨j,n,o,p,D,B,rfl,-⟩:=ht.open_;have d:∀ r u,r<8->[Value.int .i64 l[i].f2.f0,.string l[i].f2.f1,.string l[i].f2.f2,j,n,o,p,.int .i64 l[i].f2.f7][r]?=some u->W.cell? ⟨g,i*11+(2+r),none⟩=some u:=fun r u z hu=>h.cell q _ u ((hr r z).trans hu);exact ⟨g,j,n,o,p,M,rfl,⟨h.cell q _ _ x,h.cell q _ _ h1,d 0 _ kad rfl,d 1 _ kad rfl,d 2 _ kad rfl,d 3 _ kad rfl,d 4 _ kad rfl,d 5 _ kad rfl,d 6 _ kad rfl,d 7 _ kad rfl,h.cell q _ _ y⟩,ht⟩
theorem Tree.sl {W:World} {b:Nat} {x:S60} {f0 f7:Int} {f1 f2:ByteArray} {v3 v4 v5 j:Value} {L:List Nat} (h:Tree W b x [.int .i64 f0,.string f1,.string f2,v3,v4,v5,j,.int .i64 f7] L) :
  ∃ d n3 c3 i n4 c4 A5 r c5 A6 n6 c6,v3 = .slice d n3 c3/\v4 = .slice i n4 c4/\v5 = .slice A5 r c5/\j = .slice A6 n6 c6:=by
 obtain ⟨A,B,D,E,z,y,e,-,r3,r4,u,w,-⟩:=h.open_;simp only [List.cons.injEq] at e;obtain ⟨-,-,-,rfl,rfl,rfl,rfl,-⟩:=e;obtain ⟨d,c3,n,-⟩:=r3.form;obtain ⟨i,c4,o,-⟩:=r4.form;obtain ⟨A5,c5,p,-⟩:=u.form;obtain ⟨A6,c6,q,-⟩:=w.form;exact ⟨_,_,_,_,_,_,_,_,_,_,_,_,n,o,p,q⟩
theorem zul:∀ {l:List S62} {i:Nat} (h:i<l.length),wt l[i].f2<=wtI l
 | a::l,0,_=>by rw [wtI];show wt a.f2<=_;omega
 | a::l,i+1,h=>by
  have:=zul (l:=l) (i:=i) (by simpa using h);rw [wtI];exact qas this (Nat.le_add_left _ _)
theorem same_true (W:World) (b b':Nat) (l:List S62) (v v':Value) (cells cells':List Value) (L L':List Nat) (hR:Row W b 62 11 v l.length cells) (hI:zex W b l cells L) (a7:Row W b' 62 11 v' l.length cells') (aA:zex W b' l cells' L') (hl:wtI l<=8001) :
  Calls prog 13 #[.agg #[v],.agg #[v']] W fun e w'=>e = .returned (.bool true)/\Below W.heap.size W w':=by
 have aF:=zhq l;obtain ⟨A,c,rfl,-,-⟩:=hR.form;obtain ⟨G,c2,rfl,-,-⟩:=a7.form;have E:=zq (And.intro hR (And.intro hI (And.intro a7 aA)));have J:=zq (((qan W.heap.size W).alloc (qad _) (.cells #[.slice A l.length c] 36)).alloc (by simp) (.cells #[.slice G l.length c2] 36));have HX:=zq (zaf (qab W (.cells #[.slice A l.length c] 36)) (.cells #[.slice G l.length c2] 36));have hy:=qab (W.alloc (.cells #[.slice A l.length c] 36)) (.cells #[.slice G l.length c2] 36);rw [qae] at hy;have HY:=zq hy;have HB:=zq (qan ((W.alloc (.cells #[.slice A l.length c] 36)).alloc (.cells #[.slice G l.length c2] 36)).heap.size ((W.alloc (.cells #[.slice A l.length c] 36)).alloc (.cells #[.slice G l.length c2] 36)));have l1:l.length<=100000:=kab;have HW:=zq hl;clear hy hR hI a7 aA aF hl;go_enter func13,ntmps13;go_upto_region 3 with fail;generalize aD:((W.alloc (.cells #[.slice A l.length c] 36)).alloc (.cells #[.slice G l.length c2] 36))=W1 at J HX HY HB ⊢;clear aD;go_wp2
 go_loopw [5] (fun v w=>∃ i:Nat,i<=l.length/\v = .int .i64 i/\Zq (Below W1.heap.size W1 w)) (fun v _=>l.length-(intOf v).toNat)
 case atStart=>exact ⟨0,qbx _,rfl,HB⟩
 case round=>
  clear HB;obtain ⟨i,hi,rfl,HB⟩:=hrel;have xa:=zab (zaq HX.o HB.o) 0;have xb:=zab (zaq HY.o HB.o) 0;simp only [qaj,qag,qaw] at xa xb;by_cases I:i<l.length
  ·have M:=J.o.trans (HB.o.mono J.o.size);obtain ⟨ga,q3,q4,q5,q6,M1,rfl,⟨p0,p1,p2,p3,p4,p5,p6,p7,p8,p9,aG⟩,Z⟩:=zte (E.o.1.frame fun g hg=>M.block g (E.o.1.blk hg).2.1) (E.o.2.1.frame fun g hg=>M.block g (E.o.2.1.lt g hg).2) I;obtain ⟨gb,t3,t4,t5,t6,M2,rfl,⟨m0,m1,m2,m3,m4,m5,m6,m7,m8,m9,m10⟩,ad⟩:=zte (E.o.2.2.1.frame fun g hg=>M.block g (E.o.2.2.1.blk hg).2.1) (E.o.2.2.2.frame fun g hg=>M.block g (E.o.2.2.2.lt g hg).2) I;obtain ⟨j,p,x,n,q,y,A5,r,z,A6,u,d,rfl,rfl,rfl,rfl⟩:=Z.sl;obtain ⟨O,i3,x3,U,i4,x4,X,i5,x5,Y,i6,x6,rfl,rfl,rfl,rfl⟩:=ad.sl;have a6:=((qan wr.heap.size wr).alloc (qad _) (.cells #[.int .i64 l[i].f0,.string l[i].f1,.int .i64 l[i].f2.f0,.string l[i].f2.f1,.string l[i].f2.f2,.slice j p x,.slice n q y,.slice A5 r z,.slice A6 u d,.int .i64 l[i].f2.f7,.int .i64 l[i].f3] 62)).alloc (by simp) (.cells #[.int .i64 l[i].f0,.string l[i].f1,.int .i64 l[i].f2.f0,.string l[i].f2.f1,.string l[i].f2.f2,.slice O i3 x3,.slice U i4 x4,.slice X i5 x5,.slice Y i6 x6,.int .i64 l[i].f2.f7,.int .i64 l[i].f3] 62);have aH:=zag ((qan wr.heap.size wr).alloc (qad _) (.cells #[.int .i64 l[i].f0,.string l[i].f1,.int .i64 l[i].f2.f0,.string l[i].f2.f1,.string l[i].f2.f2,.slice j p x,.slice n q y,.slice A5 r z,.slice A6 u d,.int .i64 l[i].f2.f7,.int .i64 l[i].f3] 62)) xb;have n0:=zag ((qan wr.heap.size wr).alloc (qad _) (.cells #[.int .i64 l[i].f0,.string l[i].f1,.int .i64 l[i].f2.f0,.string l[i].f2.f1,.string l[i].f2.f2,.slice j p x,.slice n q y,.slice A5 r z,.slice A6 u d,.int .i64 l[i].f2.f7,.int .i64 l[i].f3] 62)) m0;have n1:=zag ((qan wr.heap.size wr).alloc (qad _) (.cells #[.int .i64 l[i].f0,.string l[i].f1,.int .i64 l[i].f2.f0,.string l[i].f2.f1,.string l[i].f2.f2,.slice j p x,.slice n q y,.slice A5 r z,.slice A6 u d,.int .i64 l[i].f2.f7,.int .i64 l[i].f3] 62)) m1;have n2:=zag ((qan wr.heap.size wr).alloc (qad _) (.cells #[.int .i64 l[i].f0,.string l[i].f1,.int .i64 l[i].f2.f0,.string l[i].f2.f1,.string l[i].f2.f2,.slice j p x,.slice n q y,.slice A5 r z,.slice A6 u d,.int .i64 l[i].f2.f7,.int .i64 l[i].f3] 62)) m2;have n3:=zag ((qan wr.heap.size wr).alloc (qad _) (.cells #[.int .i64 l[i].f0,.string l[i].f1,.int .i64 l[i].f2.f0,.string l[i].f2.f1,.string l[i].f2.f2,.slice j p x,.slice n q y,.slice A5 r z,.slice A6 u d,.int .i64 l[i].f2.f7,.int .i64 l[i].f3] 62)) m3;have n4:=zag ((qan wr.heap.size wr).alloc (qad _) (.cells #[.int .i64 l[i].f0,.string l[i].f1,.int .i64 l[i].f2.f0,.string l[i].f2.f1,.string l[i].f2.f2,.slice j p x,.slice n q y,.slice A5 r z,.slice A6 u d,.int .i64 l[i].f2.f7,.int .i64 l[i].f3] 62)) m4;have n5:=zag ((qan wr.heap.size wr).alloc (qad _) (.cells #[.int .i64 l[i].f0,.string l[i].f1,.int .i64 l[i].f2.f0,.string l[i].f2.f1,.string l[i].f2.f2,.slice j p x,.slice n q y,.slice A5 r z,.slice A6 u d,.int .i64 l[i].f2.f7,.int .i64 l[i].f3] 62)) m5;have n6:=zag ((qan wr.heap.size wr).alloc (qad _) (.cells #[.int .i64 l[i].f0,.string l[i].f1,.int .i64 l[i].f2.f0,.string l[i].f2.f1,.string l[i].f2.f2,.slice j p x,.slice n q y,.slice A5 r z,.slice A6 u d,.int .i64 l[i].f2.f7,.int .i64 l[i].f3] 62)) m6;have n7:=zag ((qan wr.heap.size wr).alloc (qad _) (.cells #[.int .i64 l[i].f0,.string l[i].f1,.int .i64 l[i].f2.f0,.string l[i].f2.f1,.string l[i].f2.f2,.slice j p x,.slice n q y,.slice A5 r z,.slice A6 u d,.int .i64 l[i].f2.f7,.int .i64 l[i].f3] 62)) m7;have n8:=zag ((qan wr.heap.size wr).alloc (qad _) (.cells #[.int .i64 l[i].f0,.string l[i].f1,.int .i64 l[i].f2.f0,.string l[i].f2.f1,.string l[i].f2.f2,.slice j p x,.slice n q y,.slice A5 r z,.slice A6 u d,.int .i64 l[i].f2.f7,.int .i64 l[i].f3] 62)) m8;have n9:=zag ((qan wr.heap.size wr).alloc (qad _) (.cells #[.int .i64 l[i].f0,.string l[i].f1,.int .i64 l[i].f2.f0,.string l[i].f2.f1,.string l[i].f2.f2,.slice j p x,.slice n q y,.slice A5 r z,.slice A6 u d,.int .i64 l[i].f2.f7,.int .i64 l[i].f3] 62)) m9;have n10:=zag ((qan wr.heap.size wr).alloc (qad _) (.cells #[.int .i64 l[i].f0,.string l[i].f1,.int .i64 l[i].f2.f0,.string l[i].f2.f1,.string l[i].f2.f2,.slice j p x,.slice n q y,.slice A5 r z,.slice A6 u d,.int .i64 l[i].f2.f7,.int .i64 l[i].f3] 62)) m10;have D:=zaf (qab wr (.cells #[.int .i64 l[i].f0,.string l[i].f1,.int .i64 l[i].f2.f0,.string l[i].f2.f1,.string l[i].f2.f2,.slice j p x,.slice n q y,.slice A5 r z,.slice A6 u d,.int .i64 l[i].f2.f7,.int .i64 l[i].f3] 62)) (.cells #[.int .i64 l[i].f0,.string l[i].f1,.int .i64 l[i].f2.f0,.string l[i].f2.f1,.string l[i].f2.f2,.slice O i3 x3,.slice U i4 x4,.slice X i5 x5,.slice Y i6 x6,.int .i64 l[i].f2.f7,.int .i64 l[i].f3] 62);have B:=qab (wr.alloc (.cells #[.int .i64 l[i].f0,.string l[i].f1,.int .i64 l[i].f2.f0,.string l[i].f2.f1,.string l[i].f2.f2,.slice j p x,.slice n q y,.slice A5 r z,.slice A6 u d,.int .i64 l[i].f2.f7,.int .i64 l[i].f3] 62)) (.cells #[.int .i64 l[i].f0,.string l[i].f1,.int .i64 l[i].f2.f0,.string l[i].f2.f1,.string l[i].f2.f2,.slice O i3 x3,.slice U i4 x4,.slice X i5 x5,.slice Y i6 x6,.int .i64 l[i].f2.f7,.int .i64 l[i].f3] 62);rw [qae] at B;have H6:=zq D;have H7:=zq B;have a8:=zq a6;have HC:=zq (conds_true 8001 l[i].f2 ((wr.alloc (.cells #[.int .i64 l[i].f0,.string l[i].f1,.int .i64 l[i].f2.f0,.string l[i].f2.f1,.string l[i].f2.f2,.slice j p x,.slice n q y,.slice A5 r z,.slice A6 u d,.int .i64 l[i].f2.f7,.int .i64 l[i].f3] 62)).alloc (.cells #[.int .i64 l[i].f0,.string l[i].f1,.int .i64 l[i].f2.f0,.string l[i].f2.f1,.string l[i].f2.f2,.slice O i3 x3,.slice U i4 x4,.slice X i5 x5,.slice Y i6 x6,.int .i64 l[i].f2.f7,.int .i64 l[i].f3] 62)) _ _ _ _ _ _ (qas (zul I) HW.o) kad (Z.frame fun g hg=>a6.block g (Z.lt g hg).2) (ad.frame fun g hg=>a6.block g (ad.lt g hg).2));have y2:=zab D 2;have y3:=zab D 3;have y4:=zab D 4;have y5:=zab D 5;have y6:=zab D 6;have y7:=zab D 7;have y8:=zab D 8;have y9:=zab D 9;have z2:=zab B 2;have z3:=zab B 3;have z4:=zab B 4;have z5:=zab B 5;have z6:=zab B 6;have z7:=zab B 7;have z8:=zab B 8;have z9:=zab B 9;simp only [qaj,qag,qaw] at y2 y3 y4 y5 y6 y7 y8 y9 z2 z3 z4 z5 z6 z7 z8 z9;clear Z ad D B a6 M;go_wp2_with (go_at_call 35;refine HC.o.mono ?_;rintro e2 w2 ⟨rfl,af⟩;have aj:=zq (HB.o.trans ((a8.o.trans (af.mono a8.o.size)).mono HB.o.size));have d:=(af.block _ (zam H6.o)).trans H6.o;have k7:=(af.block _ (zam H7.o)).trans H7.o;have a0:=zab d 0;have a1:=zab d 1;have aB:=zab d 10;have b0:=zab k7 0;have b1:=zab k7 1;have aC:=zab k7 10;simp only [qaj,qag,qaw] at a0 a1 aB b0 b1 aC;clear af d k7)
   go_roundw
   case rel=>exact ⟨i+1,I,by first|rfl|go_num,aj⟩
   case measure=>exact ztd I
  have aE:i=l.length:=qcd hi (qca I);subst aE;go_wp2;go_ret;exact ⟨rfl,J.o.trans (HB.o.mono J.o.size)⟩
end
section
structure RS where
 i:Nat
 e:Int
 p:Int
structure RSt (W:World) (g T c:Nat) (toks:List Tok) (s:RS):Prop where
 src:W.heap[g]?=some (.cells #[.slice (some ⟨T,0,none⟩) toks.length c,.int .i64 s.i,.int .i64 s.e,.int .i64 s.p] 79 (0,0))
 tok:Toks W T toks
 many:toks.length<=8001
 here:s.i<toks.length
section
variable {W w1:World} {g T c:Nat} {toks:List Tok} {s:RS}
theorem RSt.blk (h:RSt W g T c toks s) (hs:w1.heap[g]?=W.heap[g]?) (ht:w1.heap[T]?=W.heap[T]?):RSt w1 g T c toks s:=
 ⟨hs.trans h.src,by obtain ⟨cs,h1,b⟩:=h.tok;exact ⟨cs,ht.trans h1,b⟩,h.many,h.here⟩
theorem RSt.lts (h:RSt W g T c toks s):g<W.heap.size/\T<W.heap.size/\g≠T:=by
 obtain ⟨cs,h1,_⟩:=h.tok;refine ⟨zam h.src,zam h1,?_⟩;rintro rfl;have:=h.src;rw [h1] at this;injection this with this;injection this with _ b;exact absurd b kad
theorem RSt.fr {S:Nat->Prop} (h:RSt W g T c toks s) (hf:Fr W w1 S) (hg:¬S g) (b:¬S T):RSt w1 g T c toks s:=
 h.blk (hf.block g h.lts.1 hg) (hf.block T h.lts.2.1 b)
theorem RSt.alloc (h:RSt W g T c toks s) (o:Obj):RSt (W.alloc o) g T c toks s:=
 h.blk (qbm W o g h.lts.1) (qbm W o T h.lts.2.1)
theorem RSt.below (h:RSt W g T c toks s) (b:Below W.heap.size W w1):RSt w1 g T c toks s:=
 h.blk (b.block g h.lts.1) (b.block T h.lts.2.1)
theorem RSt.drew (h:RSt W g T c toks s):RSt W.drew g T c toks s:=⟨h.src,h.tok,h.many,h.here⟩
theorem RSt.undrew (h:RSt W.drew g T c toks s):RSt W g T c toks s:=⟨h.src,h.tok,h.many,h.here⟩
theorem RSt.far (h:RSt W g T c toks s) {p:Addr} (h1:g≠p.block) (b:T≠p.block) (v:Value):RSt (W.setCell p v) g T c toks s:=
 h.blk (qbn W p v g h1) (qbn W p v T b)
theorem RSt.setI (h:RSt W g T c toks s) {j:Nat} (i:j<toks.length) {z:Int} (n:z=(j:Int)):RSt (W.setCell ⟨g,1,none⟩ (.int .i64 z)) g T c toks ⟨j,s.e,s.p⟩:=by
 subst n;obtain ⟨cs,b,d⟩:=h.tok;exact ⟨zan h.src 1 _ rfl,⟨cs,zav b h.lts.2.2.symm _,d⟩,h.many,i⟩
theorem RSt.setE (h:RSt W g T c toks s) (e p:Int):RSt ((W.setCell ⟨g,2,none⟩ (.int .i64 e)).setCell ⟨g,3,none⟩ (.int .i64 p)) g T c toks ⟨s.i,e,p⟩:=by
 obtain ⟨cs,d,j⟩:=h.tok;have b:_=some (Obj.cells #[.slice (some ⟨T,0,none⟩) toks.length c,.int .i64 s.i,.int .i64 e,.int .i64 s.p] 79 (0,0)):=zan h.src 2 (.int .i64 e) rfl;exact ⟨zan b 3 _ rfl,⟨cs,zav (zav d h.lts.2.2.symm _) h.lts.2.2.symm _,j⟩,h.many,h.here⟩
theorem RSt.facts (h:RSt W g T c toks s):W.cell? ⟨g,0,none⟩=some (.slice (some ⟨T,0,none⟩) toks.length c)/\W.cell? ⟨g,1,none⟩=some (.int .i64 s.i)/\W.cell? ⟨g,2,none⟩=some (.int .i64 s.e)/\W.cell? ⟨g,3,none⟩=some (.int .i64 s.p)/\W.frozen? ⟨g,1,none⟩=false/\W.frozen? ⟨g,2,none⟩=false/\W.frozen? ⟨g,3,none⟩=false:=
 ⟨zab h.src 0,zab h.src 1,zab h.src 2,zab h.src 3,zac h.src 1,zac h.src 2,zac h.src 3⟩
end
section
variable (toks:List Tok)
def zcc (e p:Int) (s:RS):RS:=if s.e=0 then ⟨s.i,e,p⟩ else s
def zbv (s:RS):RS:=zcc 90 (tk toks s.i).place s
def isR (w:ByteArray) (s:RS):Bool:=decide (s.e=0)&&isT (tk toks s.i) w
def mayR (w:ByteArray) (s:RS):RS:=if isR toks w s=true then ⟨s.i+1,s.e,s.p⟩ else s
def zdn (w:ByteArray) (s:RS):RS:=if isR toks w s=true then ⟨s.i+1,s.e,s.p⟩ else zbv toks s
def zai (k:Int) (s:RS):Tok:=if s.e≠0\/(tk toks s.i).kind≠k then ⟨0,⟨#[]⟩,0,0,0,0⟩ else tk toks s.i
def zay (k:Int) (s:RS):RS:=if s.e≠0\/(tk toks s.i).kind≠k then zbv toks s else ⟨s.i+1,s.e,s.p⟩
end
theorem zdm (W:World) (g T c:Nat) (toks:List Tok) (s:RS) (e p:Int) (h:RSt W g T c toks s) :
  Calls prog 33 #[.pointer (some ⟨g,0,none⟩),.int .i64 e,.int .i64 p] W fun e' W'=>e' = .returned (.tuple #[])/\RSt W' g T c toks (zcc e p s)/\Fr W W' (·=g):=by
 obtain ⟨n,q,j,r,z1,z2,z3⟩:=h.facts;by_cases b:s.e=0
 ·have d:=zq (show RSt _ g T c toks (zcc e p s) from (by rw [show zcc e p s=⟨s.i,e,p⟩ from if_pos b];exact h.setE e p));rw [b] at j;clear b h;go_enter func33,ntmps33;go_wp2;first|go_end0|(refine qaf (qbb rfl _ _ _) rfl ?_)
  exact ⟨rfl,d.o,Fr.setCell (S:=(·=g)) (Fr.setCell (S:=(·=g)) (Fr.refl W _) (p:=⟨g,2,none⟩) (.inl rfl) _) (p:=⟨g,3,none⟩) (.inl rfl) _⟩
 have d:=zq (show RSt _ g T c toks (zcc e p s) from (by rw [show zcc e p s=s from if_neg b];exact h));clear h;go_enter func33,ntmps33;go_wp2;first|go_end0|(refine qaf (qbb rfl _ _ _) rfl ?_)
 exact ⟨rfl,d.o,Fr.refl _ _⟩
theorem zdo (W:World) (g T c:Nat) (toks:List Tok) (s:RS) (h:RSt W g T c toks s) :
  Calls prog 56 #[.pointer (some ⟨g,0,none⟩)] W fun e' W'=>e' = .returned (.tuple #[])/\RSt W' g T c toks (zbv toks s)/\Fr W W' (·=g):=by
 obtain ⟨r,u,w,x,z1,z2,z3⟩:=h.facts;have p:=h.here;have q:=h.many;obtain ⟨d0,d1,d2,d3,d4,d5⟩:=h.tok.cell (zdp toks h.here);have d:=zq (fun W' (e:RSt W' g T c toks s)=>zdm W' g T c toks s 90 (tk toks s.i).place e);have b:=zq h;clear h;go_enter func56,ntmps56;go_wp2;go_region_law (go_simp;go_at_call 33;refine (d.o _ (by first|exact b.o|exact b.o.drew)).mono ?_;rintro n w1 ⟨rfl,j,hF⟩);all_goals (first|go_end0|(refine qaf (qbb rfl _ _ _) rfl ?_))
 all_goals exact ⟨rfl,j,hF.undrew⟩
theorem RSt.look {W:World} {g T c:Nat} {toks:List Tok} {s:RS} (h:RSt W g T c toks s) :
  W.cell? ⟨g,0,none⟩=some (.slice (some ⟨T,0,none⟩) toks.length c)/\W.cell? ⟨g,1,none⟩=some (.int .i64 s.i)/\W.cell? ⟨g,2,none⟩=some (.int .i64 s.e) /\
  W.cell? ⟨T,s.i*6,none⟩=some (.int .i64 (tk toks s.i).kind)/\W.cell? ⟨T,s.i*6+1,none⟩=some (.string (tk toks s.i).text)/\W.cell? ⟨T,s.i*6+2,none⟩=some (.int .i64 (tk toks s.i).num)/\W.cell? ⟨T,s.i*6+3,none⟩=some (.int .i64 (tk toks s.i).pa)/\W.cell? ⟨T,s.i*6+4,none⟩=some (.int .i64 (tk toks s.i).pb)/\W.cell? ⟨T,s.i*6+5,none⟩=some (.int .i64 (tk toks s.i).place):=
 ⟨h.facts.1,h.facts.2.1,h.facts.2.2.1,h.tok.cell (zdp toks h.here)⟩
theorem zbt (W:World) (g T c:Nat) (toks:List Tok) (s:RS) (w:ByteArray) (h:RSt W g T c toks s) :
  Calls prog 32 #[.pointer (some ⟨g,0,none⟩),.string w] W fun e' W'=>e' = .returned (.bool (isR toks w s))/\Below W.heap.size W W':=by
 have b:=fun o=>(h.alloc o).look;have u:=fun o=>(b o).1;have x:=fun o=>(b o).2.1;have y:=fun o=>(b o).2.2.1;have d0:=fun o=>(b o).2.2.2.1;have d1:=fun o=>(b o).2.2.2.2.1;have d2:=fun o=>(b o).2.2.2.2.2.1;have d3:=fun o=>(b o).2.2.2.2.2.2.1;have d4:=fun o=>(b o).2.2.2.2.2.2.2.1;have d5:=fun o=>(b o).2.2.2.2.2.2.2.2;obtain ⟨u0,u1,u2,d,e,i,j,n,p⟩:=h.look;have q:=h.here;have r:=h.many;clear h b;go_enter func32,ntmps32;go_wp2;go_region;all_goals (try go_wp2)
 all_goals go_ret
 all_goals refine ⟨?_,((qan _ _).alloc (qad _) _).drew⟩
 all_goals simp [isR,isT, *]
theorem zqw {toks:List Tok} {w:ByteArray} {s:RS} (h:isR toks w s=true):(tk toks s.i).kind≠8/\s.e=0:=by
 unfold isR at h;rw [qbj,decide_eq_true_eq] at h;exact ⟨zcd h.2,h.1⟩
section
variable (g T c:Nat) (toks:List Tok) (aa:∀ k,k<toks.length->(tk toks k).kind≠8->k+1<toks.length)
include aa
theorem zcw (W:World) (s:RS) (w:ByteArray) (h:RSt W g T c toks s) :
  Calls prog 88 #[.pointer (some ⟨g,0,none⟩),.string w] W fun e' W'=>e' = .returned (.bool (isR toks w s))/\RSt W' g T c toks (mayR toks w s)/\Fr W W' (·=g):=by
 have d:=zq (zbt W g T c toks s w h);have j:=zq h;have x:=h.many;have u:=h.here;clear h;unfold mayR;cases b:isR toks w s with
 | false=>
  rw [b] at d;clear b;simp only [qbt,if_false];go_enter func88,ntmps88;go_wp2_with (go_at_call 32;refine d.o.mono ?_;rintro e' w' ⟨rfl,b⟩);go_ret;exact ⟨rfl,j.o.below b,Fr.of_below b⟩
 | true=>
  have r:=zq (aa s.i u (zqw b).1);rw [b] at d;clear b;simp only [if_true];go_enter func88,ntmps88;go_wp2_with (go_at_call 32;refine d.o.mono ?_;rintro e' w' ⟨rfl,b⟩;have e:=j.o.below b;obtain ⟨y,z,A,B,z1,z2,z3⟩:=e.facts;have q:=zq e;have n:=zq (Fr.of_below (S:=(·=g)) b);clear e b);go_ret;exact ⟨rfl,q.o.setI r.o kab,Fr.setCell (S:=(·=g)) n.o (p:=⟨g,1,none⟩) (.inl rfl) _⟩
theorem zbr (W:World) (s:RS) (w:ByteArray) (h:RSt W g T c toks s) :
  Calls prog 58 #[.pointer (some ⟨g,0,none⟩),.string w] W fun e' W'=>e' = .returned (.tuple #[])/\RSt W' g T c toks (zdn toks w s)/\Fr W W' (·=g):=by
 have b:=zq (zcw g T c toks aa W s w h);have i:=zq (fun W' j=>zdo W' g T c toks s j);clear h;unfold zdn;unfold mayR at b;cases d:isR toks w s with
 | false=>
  rw [d] at b;clear d;simp only [qbt,if_false] at b ⊢;go_enter func58,ntmps58;go_wp2_with (first
   | (go_at_call 88;refine b.o.mono ?_;rintro e' w' ⟨rfl,e,hF⟩)
   | (go_at_call 56;refine (i.o _ e).mono ?_;rintro q r ⟨rfl,p,n⟩))
  first|go_end0|(refine qaf (qbb rfl _ _ _) rfl ?_)
  exact ⟨rfl,p,hF.trans n⟩
 | true=>
  rw [d] at b;clear d;simp only [if_true] at b ⊢;go_enter func58,ntmps58;go_wp2_with (go_at_call 88;refine b.o.mono ?_;rintro e' w' ⟨rfl,e,hF⟩);first|go_end0|(refine qaf (qbb rfl _ _ _) rfl ?_)
  exact ⟨rfl,e,hF⟩
end
abbrev tokQ (t:Tok):Obj := .cells #[.int .i64 t.kind,.string t.text,.int .i64 t.num,.int .i64 t.pa,.int .i64 t.pb,.int .i64 t.place] 49
abbrev zqk:Array Value:=#[.int .i64 0,.string ⟨#[]⟩,.int .i64 0,.int .i64 0,.int .i64 0,.int .i64 0]
theorem zhy (w:World) (g:Nat):w.drew.heap[g]?=w.heap[g]?:=rfl
abbrev store6 (W:World) (m:Nat) (v0 v1 v2 v3 v4 v5:Value):World:=(((((W.setCell ⟨m,0,none⟩ v0).setCell ⟨m,1,none⟩ v1).setCell ⟨m,2,none⟩ v2).setCell ⟨m,3,none⟩ v3).setCell ⟨m,4,none⟩ v4).setCell ⟨m,5,none⟩ v5
theorem zgj (W:World) (m:Nat) (v0 v1 v2 v3 v4 v5:Value):Fr W (store6 W m v0 v1 v2 v3 v4 v5) (·=m):=by
 have b:=(Fr.refl W (·=m)).setCell (p:=⟨m,0,none⟩) (.inl rfl) v0;have d:=b.setCell (p:=⟨m,1,none⟩) (.inl rfl) v1;have e:=d.setCell (p:=⟨m,2,none⟩) (.inl rfl) v2;have i:=e.setCell (p:=⟨m,3,none⟩) (.inl rfl) v3;have j:=i.setCell (p:=⟨m,4,none⟩) (.inl rfl) v4;exact j.setCell (p:=⟨m,5,none⟩) (.inl rfl) v5
theorem zig {w:World} {m:Nat} (h:w.heap[m]?=some (.cells zqk 49 (0,0))):w.cell? ⟨m,0,none⟩=some (.int .i64 0)/\w.cell? ⟨m,1,none⟩=some (.string ⟨#[]⟩)/\w.cell? ⟨m,2,none⟩=some (.int .i64 0)/\w.cell? ⟨m,3,none⟩=some (.int .i64 0)/\w.cell? ⟨m,4,none⟩=some (.int .i64 0)/\w.cell? ⟨m,5,none⟩=some (.int .i64 0) /\
  w.frozen? ⟨m,0,none⟩=false/\w.frozen? ⟨m,1,none⟩=false/\w.frozen? ⟨m,2,none⟩=false/\w.frozen? ⟨m,3,none⟩=false/\w.frozen? ⟨m,4,none⟩=false/\w.frozen? ⟨m,5,none⟩=false:=⟨zab h 0,zab h 1,zab h 2,zab h 3,zab h 4,zab h 5,zac h 0,zac h 1,zac h 2,zac h 3,zac h 4,zac h 5⟩
theorem zdr (W:World) (g T c:Nat) (toks:List Tok) (aa:∀ k,k<toks.length->(tk toks k).kind≠8->k+1<toks.length) (s:RS) (k:Int) (Y:k≠8) (h:RSt W g T c toks s) :
  Calls prog 57 #[.pointer (some ⟨g,0,none⟩),.int .i64 k] W fun e' W'=>e' = .returned (zai toks k s).val/\RSt W' g T c toks (zay toks k s)/\Fr W W' (·=g):=by
 have b:=fun o o2=>((h.alloc o).alloc o2).look;have s0:=fun o o2=>(b o o2).1;have s1:=fun o o2=>(b o o2).2.1;have s2:=fun o o2=>(b o o2).2.2.1;have d0:=fun o o2=>(b o o2).2.2.2.1;have d1:=fun o o2=>(b o o2).2.2.2.2.1;have d2:=fun o o2=>(b o o2).2.2.2.2.2.1;have d3:=fun o o2=>(b o o2).2.2.2.2.2.2.1;have d4:=fun o o2=>(b o o2).2.2.2.2.2.2.2.1;have d5:=fun o o2=>(b o o2).2.2.2.2.2.2.2.2;have d:=fun o=>(h.alloc o).look;have t0:=fun o=>(d o).1;have t1:=fun o=>(d o).2.1;have t2:=fun o=>(d o).2.2.1;have e0:=fun o=>(d o).2.2.2.1;have w:=fun o=>(d o).2.2.2.2.1;have J:=fun o=>(d o).2.2.2.2.2.1;have L:=fun o=>(d o).2.2.2.2.2.2.1;have e4:=fun o=>(d o).2.2.2.2.2.2.2.1;have e5:=fun o=>(d o).2.2.2.2.2.2.2.2;have Z:=h.here;have af:=h.many;have I:=zq (fun W' U=>zdo W' g T c toks s U);have M:=zq h;have O:=zq aa;have r:g≠W.heap.size:=by have:=h.lts.1;omega
 have ad:g≠W.heap.size+1:=by have:=h.lts.1;omega
 have E:T≠W.heap.size:=by have:=h.lts.2.1;omega
 have a1:=fun o o2=>((h.alloc o).alloc o2).facts.2.2.2.2.1;have D:=zq (qab W (.cells zqk 49));have y:=fun o=>zq (((Fr.refl W (·=g)).alloc (.cells zqk 49)).alloc o);have G:=zq ((h.alloc (.cells zqk 49)).alloc (tokQ (tk toks s.i))).drew;clear h b d aa;unfold zai zay;by_cases j:s.e=0
 ·simp only [j] at t2 s2;by_cases hk:(tk toks s.i).kind=k
  ·have X:=zq (O.o s.i Z (by rw [hk];exact Y));rw [if_neg (by rw [j,hk];simp),if_neg (by rw [j,hk];simp)];subst hk;clear j;go_enter func57,ntmps57;go_wp2;go_region;(all_goals (try go_wp2));all_goals
    have w:=((M.o.alloc (.cells zqk 49)).alloc (tokQ (tk toks s.i))).setI X.o (z:=(s.i:Int)+1) kab;have J:=Fr.setCell (S:=(·=g)) (y (tokQ (tk toks s.i))).o (p:=⟨g,1,none⟩) (.inl rfl) (.int .i64 ((s.i:Int)+1));have L:=zav (p:=⟨g,1,none⟩) (zaf D.o (tokQ (tk toks s.i))) (fun e=>r e.symm) (.int .i64 ((s.i:Int)+1));refine qaf (qau rfl _ _ W.heap.size 49 #[.int .i64 (tk toks s.i).kind,.string (tk toks s.i).text,.int .i64 (tk toks s.i).num,.int .i64 (tk toks s.i).pa,.int .i64 (tk toks s.i).pb,.int .i64 (tk toks s.i).place] (0,0) _ rfl ((zhy _ _).trans (zhs L _ _ _ _ _ _)) underlying49 rfl kae) rfl ?_;exact ⟨rfl,(w.fr (zgj _ W.heap.size _ _ _ _ _ _) r E).drew,(J.then_ (zgj _ W.heap.size _ _ _ _ _ _) (fun k hk => .inr kab)).drew⟩
  rw [if_pos (.inr hk),if_pos (.inr hk)];clear j;go_enter func57,ntmps57;go_wp2;go_region;all_goals go_wp2_with (go_at_call 56;refine (I.o _ G.o).mono ?_;rintro w w1 ⟨rfl,u,hF⟩;have n:=hF.undrew;have q:=n.blk (zaf D.o (tokQ (tk toks s.i))) (fun e=>r e.symm);obtain ⟨y0,y1,y2,y3,y4,y5,x0,x1,x2,x3,x4,x5⟩:=zig q;have B:=zq u;have x:=zq ((y (tokQ (tk toks s.i))).o.trans n);have A:=zq q;clear u hF n q)
  all_goals
   refine qaf (qau rfl _ _ W.heap.size 49 zqk (0,0) _ rfl (zhs A.o _ _ _ _ _ _) underlying49 rfl kae) rfl ?_;exact ⟨rfl,(B.o.fr (zgj _ W.heap.size _ _ _ _ _ _) r E),(x.o.then_ (zgj _ W.heap.size _ _ _ _ _ _) (fun k hk => .inr kab))⟩
 rw [if_pos (.inl j),if_pos (.inl j)];go_enter func57,ntmps57;go_wp2;go_region;all_goals go_wp2_with (go_at_call 56;refine (I.o _ G.o).mono ?_;rintro w w1 ⟨rfl,u,hF⟩;have n:=hF.undrew;have q:=n.blk (zaf D.o (tokQ (tk toks s.i))) (fun e=>r e.symm);obtain ⟨y0,y1,y2,y3,y4,y5,x0,x1,x2,x3,x4,x5⟩:=zig q;have B:=zq u;have x:=zq ((y (tokQ (tk toks s.i))).o.trans n);have A:=zq q;clear u hF n q)
 all_goals
  refine qaf (qau rfl _ _ W.heap.size 49 zqk (0,0) _ rfl (zhs A.o _ _ _ _ _ _) underlying49 rfl kae) rfl ?_;exact ⟨rfl,(B.o.fr (zgj _ W.heap.size _ _ _ _ _ _) r E),(x.o.then_ (zgj _ W.heap.size _ _ _ _ _ _) (fun k hk => .inr kab))⟩
end
section
theorem ops_any (l:List UInt8):([sNot,zjt,zge,zfh,zfd,zcm,zid,zei,sHas].any fun w=>l==w.toList) =
  (l==[110,111,116]||(l==[116,114,117,101]||(l==[102,97,108,115,101]||(l==[97,100,100,114]||(l==[112,111,114,116]||(l==[109,101,116,104,111,100]||(l==[112,97,116,104]||(l==[104,101,97,100,101,114]||l==[104,97,115])))))))):=by
 simp only [List.any_cons,List.any_nil,Bool.or_false,show sNot.toList=[110,111,116] from by kernel_rfl,show zjt.toList=[116,114,117,101] from by kernel_rfl,show zge.toList=[102,97,108,115,101] from by kernel_rfl,show zfh.toList=[97,100,100,114] from by kernel_rfl,show zfd.toList=[112,111,114,116] from by kernel_rfl,show zcm.toList=[109,101,116,104,111,100] from by kernel_rfl,show zid.toList=[112,97,116,104] from by kernel_rfl,show zei.toList=[104,101,97,100,101,114] from by kernel_rfl,show sHas.toList=[104,97,115] from by kernel_rfl]
theorem zjp (W:World) (g T c:Nat) (toks:List Tok) (s:RS) (h:RSt W g T c toks s) :
  Calls prog 90 #[.pointer (some ⟨g,0,none⟩)] W fun e' W'=>e' = .returned (.bool (zdh (tk toks s.i)))/\Below W.heap.size W W':=by
 have d:=fun o=>(h.alloc o).look;have B:=fun o=>(d o).1;have D:=fun o=>(d o).2.1;have d0:=fun o=>(d o).2.2.2.1;have d1:=fun o=>(d o).2.2.2.2.1;have d2:=fun o=>(d o).2.2.2.2.2.1;have d3:=fun o=>(d o).2.2.2.2.2.2.1;have d4:=fun o=>(d o).2.2.2.2.2.2.2.1;have d5:=fun o=>(d o).2.2.2.2.2.2.2.2;obtain ⟨u0,u1,u2,p,q,r,u,x,y⟩:=h.look;have z:=h.here;have A:=h.many;clear h d;by_cases e:(tk toks s.i).kind=2
 ·rw [show zdh (tk toks s.i)=true by unfold zdh;rw [if_pos e]];go_enter func90,ntmps90;go_wp2;go_region;all_goals (try go_wp2)
  all_goals go_ret
  all_goals exact ⟨rfl,((qan _ _).alloc (qad _) _).drew⟩
 by_cases j:(tk toks s.i).kind=7
 ·rw [show zdh (tk toks s.i)=((tk toks s.i).text.toList==[40]) by unfold zdh;rw [if_neg e,if_pos j,show zgb.toList=[40] from by kernel_rfl]];go_enter func90,ntmps90;go_wp2;go_region;all_goals (try go_wp2)
  all_goals go_ret
  all_goals exact ⟨rfl,((qan _ _).alloc (qad _) _).drew⟩
 by_cases h1:(tk toks s.i).kind=1
 ·have n:zdh (tk toks s.i)=[sNot,zjt,zge,zfh,zfd,zcm,zid,zei,sHas].any fun w=>(tk toks s.i).text.toList==w.toList:=by unfold zdh;rw [if_neg e,if_neg j,if_pos h1]
  rw [n,ops_any];clear n;go_enter func90,ntmps90;go_wp2;go_region;all_goals (try go_wp2)
  all_goals go_ret
  all_goals refine ⟨?_,((qan _ _).alloc (qad _) _).drew⟩
  all_goals (first
   | (exfalso;simp_all;done)
   | (refine Eq.trans (b:=Ending.returned (.bool true)) rfl ?_;simp [*];done)
   | (refine Eq.trans (b:=Ending.returned (.bool false)) rfl ?_;simp [*];done))
 rw [show zdh (tk toks s.i)=false by unfold zdh;rw [if_neg e,if_neg j,if_neg h1]];go_enter func90,ntmps90;go_wp2;go_region;all_goals (try go_wp2)
 all_goals go_ret
 all_goals exact ⟨rfl,((qan _ _).alloc (qad _) _).drew⟩
theorem ziq (W:World) (g T c:Nat) (toks:List Tok) (s:RS) (d:Int) (k:Int) (n m:ByteArray) (v3 v4 v5 O:Value) (a:Int) (b e A5 A6:Option Addr) (n3 c3 n4 c4 i c5 n6 c6:Nat) (h:RSt W g T c toks s) :
  Calls prog 91 #[.pointer (some ⟨g,0,none⟩),.agg #[.int .i64 k,.string n,.string m,.slice b n3 c3,.slice e n4 c4,.slice A5 i c5,.slice A6 n6 c6,.int .i64 a],.int .i64 d] W fun e' W'=>
   e' = .returned (.tuple #[.agg #[.int .i64 k,.string n,.string m,.slice b n3 c3,.slice e n4 c4,.slice A5 i c5,.slice A6 n6 c6,.int .i64 a],.int .i64 d])/\RSt W' g T c toks (if d>16 then zcc 91 a s else s)/\Fr W W' (·=g):=by
 have hg:=h.lts.1;have M:=h.lts.2.1;have J:g≠W.heap.size+1:=kab;have I:T≠W.heap.size+1:=kab;have HX:=zq ((h.alloc (.cells #[.int .i64 k,.string n,.string m,.slice b n3 c3,.slice e n4 c4,.slice A5 i c5,.slice A6 n6 c6,.int .i64 a] 60)).alloc (.cells zbe 60));have w:=zq (((Fr.refl W (·=g)).alloc (.cells #[.int .i64 k,.string n,.string m,.slice b n3 c3,.slice e n4 c4,.slice A5 i c5,.slice A6 n6 c6,.int .i64 a] 60)).alloc (.cells zbe 60));have z:=zq (zaf (qab W (.cells #[.int .i64 k,.string n,.string m,.slice b n3 c3,.slice e n4 c4,.slice A5 i c5,.slice A6 n6 c6,.int .i64 a] 60)) (.cells zbe 60));have D:=zq (qab (W.alloc (.cells #[.int .i64 k,.string n,.string m,.slice b n3 c3,.slice e n4 c4,.slice A5 i c5,.slice A6 n6 c6,.int .i64 a] 60)) (.cells zbe 60));have B:=zq (fun W' G=>zdm W' g T c toks s 91 a G);have y:=zq ((h.alloc (.cells #[.int .i64 k,.string n,.string m,.slice b n3 c3,.slice e n4 c4,.slice A5 i c5,.slice A6 n6 c6,.int .i64 a] 60)).alloc (.cells #[.int .i64 k,.string n,.string m,.slice b n3 c3,.slice e n4 c4,.slice A5 i c5,.slice A6 n6 c6,.int .i64 a] 60));have x:=zq (((Fr.refl W (·=g)).alloc (.cells #[.int .i64 k,.string n,.string m,.slice b n3 c3,.slice e n4 c4,.slice A5 i c5,.slice A6 n6 c6,.int .i64 a] 60)).alloc (.cells #[.int .i64 k,.string n,.string m,.slice b n3 c3,.slice e n4 c4,.slice A5 i c5,.slice A6 n6 c6,.int .i64 a] 60));clear h;by_cases hd:d>16
 ·simp only [if_pos hd];go_enter func91,ntmps91;go_wp2_with (go_at_call 33;refine (B.o _ HX.o).mono ?_;rintro L w1 ⟨rfl,u,hF⟩;have j:=hF.blk z.o kah;have q:=hF.blk D.o (by rw [qae];show ¬W.heap.size+1=g;omega);rw [qae] at q;obtain ⟨y0,y1,y2,y3,y4,y5,y6,y7,z0,z1,z2,z3,z4,z5,z6,z7⟩:=zaw q;have U:=zab j 0;have X:=zab j 1;have Y:=zab j 2;have Z:=zab j 3;have x4:=zab j 4;have x5:=zab j 5;have x6:=zab j 6;have x7:=zab j 7;have E:=zq q;have A:=zq u;have an:=zq (w.o.trans hF);clear u hF j q);have p:=zft E.o (.int .i64 k) (.string n) (.string m) (.slice b n3 c3) (.slice e n4 c4) (.slice A5 i c5) (.slice A6 n6 c6) (.int .i64 a);have r:=zbo w1 (W.heap.size+1) (.int .i64 k) (.string n) (.string m) (.slice b n3 c3) (.slice e n4 c4) (.slice A5 i c5) (.slice A6 n6 c6) (.int .i64 a);refine qaf (zbg rfl _ _ (W.heap.size+1) 60 #[.int .i64 k,.string n,.string m,.slice b n3 c3,.slice e n4 c4,.slice A5 i c5,.slice A6 n6 c6,.int .i64 a] (0,0) _ rfl p underlying60 rfl kae) rfl ?_;exact ⟨rfl,A.o.fr r J I,an.o.then_ r fun k hk => .inr kab⟩
 simp only [if_neg hd];go_enter func91,ntmps91;go_wp2;have p:=qab (W.alloc (.cells #[.int .i64 k,.string n,.string m,.slice b n3 c3,.slice e n4 c4,.slice A5 i c5,.slice A6 n6 c6,.int .i64 a] 60)) (.cells #[.int .i64 k,.string n,.string m,.slice b n3 c3,.slice e n4 c4,.slice A5 i c5,.slice A6 n6 c6,.int .i64 a] 60);rw [qae] at p;refine qaf (zbg rfl _ _ (W.heap.size+1) 60 #[.int .i64 k,.string n,.string m,.slice b n3 c3,.slice e n4 c4,.slice A5 i c5,.slice A6 n6 c6,.int .i64 a] (0,0) _ rfl p underlying60 rfl kae) rfl ?_;exact ⟨rfl,y.o,x.o⟩
end
section
def zrs (a:Int):S60:=⟨0,⟨#[]⟩,⟨#[]⟩,[],[],[],[],a⟩
abbrev zbl (a:Int):Array Value:=#[.int .i64 0,.string ⟨#[]⟩,.string ⟨#[]⟩,.slice none 0 0,.slice none 0 0,.slice none 0 0,.slice none 0 0,.int .i64 a]
theorem zir (W:World) (b:Nat) (a:Int):Tree W b (zrs a) (zbl a).toList [] := .mk (Row.nil _ _ _ _) (Row.nil _ _ _ _) (Row.nil _ _ _ _) (Row.nil _ _ _ _) .nil
theorem zbn {W w:World} {g T c:Nat} {toks:List Tok} {s:RS} (hg:g<W.heap.size) (j:T<W.heap.size) (h:w.heap[W.heap.size]?=some (.cells zbe 60 (0,0))) (i:RSt w g T c toks s) (hF:Fr W w (·=g)) (v0 v1 v2 v3 v4 v5 b d:Value) :
  let W2:=zlj w W.heap.size v0 v1 v2 v3 v4 v5 b d
  W2.heap[W.heap.size]?=some (.cells #[v0,v1,v2,v3,v4,v5,b,d] 60 (0,0))/\RSt W2 g T c toks s/\Fr W W2 (·=g):=by
 intro W2;have e:=zbo w W.heap.size v0 v1 v2 v3 v4 v5 b d;exact ⟨zft h _ _ _ _ _ _ _ _,i.fr e kab kab,hF.then_ e fun k hk => .inr kab⟩
section
variable (g T c:Nat) (toks:List Tok)
theorem zea {w:ByteArray} {s:RS} (b:s.e≠0):isR toks w s=false:=by unfold isR;rw [qak b];rfl
theorem zde {w:ByteArray} {s:RS} (b:s.e≠0):mayR toks w s=s:=by unfold mayR;rw [zea toks b];rfl
theorem zfs {s:RS} (b:s.e≠0):zbv toks s=s:=if_neg b
theorem firstR_err (W:World) (s:RS) (J:s.e≠0) (h:RSt W g T c toks s) :
  Calls prog 149 #[.pointer (some ⟨g,0,none⟩)] W fun e' W'=>e' = .returned (.agg (zbl (tk toks s.i).place))/\RSt W' g T c toks s/\Fr W W' (·=g):=by
 have b:=fun o o2=>((h.alloc o).alloc o2).look;have s0:=fun o o2=>(b o o2).1;have s1:=fun o o2=>(b o o2).2.1;have d0:=fun o o2=>(b o o2).2.2.2.1;have d1:=fun o o2=>(b o o2).2.2.2.2.1;have d2:=fun o o2=>(b o o2).2.2.2.2.2.1;have d3:=fun o o2=>(b o o2).2.2.2.2.2.2.1;have d4:=fun o o2=>(b o o2).2.2.2.2.2.2.2.1;have d5:=fun o o2=>(b o o2).2.2.2.2.2.2.2.2;have d:=fun o=>(h.alloc o).look;have t0:=fun o=>(d o).1;have t1:=fun o=>(d o).2.1;have L:=fun o=>(d o).2.2.2.1;have E:=fun o=>(d o).2.2.2.2.1;have M:=fun o=>(d o).2.2.2.2.2.1;have O:=fun o=>(d o).2.2.2.2.2.2.1;have U:=fun o=>(d o).2.2.2.2.2.2.2.1;have X:=fun o=>(d o).2.2.2.2.2.2.2.2;have s2:=fun o o2 o3=>(((h.alloc o).alloc o2).alloc o3).facts.2.2.1;have Y:=h.here;have Z:=h.many;have hg:=h.lts.1;have I:=h.lts.2.1;have p:=zq (fun W' G=>zdo W' g T c toks s G);rw [zfs toks J] at p;have ae:=zq (((h.alloc (.cells zbe 60)).alloc (tokQ (tk toks s.i))).alloc (.cells (zbl (tk toks s.i).place) 60)).drew;have u:=zq ((((Fr.refl W (·=g)).alloc (.cells zbe 60)).alloc (tokQ (tk toks s.i))).alloc (.cells (zbl (tk toks s.i).place) 60)).drew;have z:=zq (zaf (zaf (qab W (.cells zbe 60)) (tokQ (tk toks s.i))) (.cells (zbl (tk toks s.i).place) 60));have hn:=qab ((W.alloc (.cells zbe 60)).alloc (tokQ (tk toks s.i))) (.cells (zbl (tk toks s.i).place) 60);rw [qae,qae] at hn;have w:=zq hn;clear h b d hn;go_enter func149,ntmps149;go_wp2;go_region;all_goals go_wp2_with (go_at_call 56;refine (p.o _ ae.o).mono ?_;rintro E w1 ⟨rfl,q,hF⟩;have j:=hF.undrew.blk w.o kbj;have n:=hF.undrew.blk z.o kah;obtain ⟨y0,y1,y2,y3,y4,y5,y6,y7,z0,z1,z2,z3,z4,z5,z6,z7⟩:=zaw n;have q0:=zab j 0;have q1:=zab j 1;have q2:=zab j 2;have q3:=zab j 3;have q4:=zab j 4;have q5:=zab j 5;have q6:=zab j 6;have q7:=zab j 7;have x:=zq q;have r:=zq (u.o.trans hF);have y:=zq n;clear q hF j n)
 all_goals
  obtain ⟨A,B,D⟩:=zbn hg I y.o x.o r.o (.int .i64 0) (.string ⟨#[]⟩) (.string ⟨#[]⟩) (.slice none 0 0) (.slice none 0 0) (.slice none 0 0) (.slice none 0 0) (.int .i64 (tk toks s.i).place);refine qaf (qau rfl _ _ W.heap.size 60 (zbl (tk toks s.i).place) (0,0) _ rfl A underlying60 rfl kae) rfl ?_;exact ⟨rfl,B,D⟩
theorem notR_err (aa:∀ k,k<toks.length->(tk toks k).kind≠8->k+1<toks.length) (W:World) (s:RS) (n:s.e≠0) (h:RSt W g T c toks s) :
  Calls prog 120 #[.pointer (some ⟨g,0,none⟩)] W fun e' W'=>e' = .returned (.tuple #[.agg (zbl (tk toks s.i).place),.int .i64 1])/\RSt W' g T c toks s/\Fr W W' (·=g):=by
 have d:=fun o=>(h.alloc o).look;have t0:=fun o=>(d o).1;have t1:=fun o=>(d o).2.1;have Z:=fun o=>(d o).2.2.2.2.2.2.2.2;have ad:=h.here;have af:=h.many;have hg:=h.lts.1;have O:=h.lts.2.1;have j:=zq (fun W' w p=>zcw g T c toks aa W' s w p);have z:=zq (fun W' p=>firstR_err g T c toks W' s n p);simp only [zea toks n,zde toks n] at j;have r:=j;have ae:=zq (h.alloc (.cells zbe 60)).drew;have u:=zq ((Fr.refl W (·=g)).alloc (.cells zbe 60)).drew;have D:=zq (qab W (.cells zbe 60));clear h d n;go_enter func120,ntmps120;go_wp2;go_region;all_goals go_wp2_with (first
  | (go_at_call 88;refine (j.o _ _ ae.o).mono ?_;rintro U w1 ⟨rfl,b,hF⟩;have ab:=zq b;have an:=zq (u.o.trans hF);have E:=zq (hF.undrew.blk D.o kah);clear b hF j)
  | (go_at_call 88;refine (r.o _ _ ab.o).mono ?_;rintro X w2 ⟨rfl,b,hF⟩;have A:=zq b;have x:=zq (an.o.trans hF);have G:=zq (hF.blk E.o kah);clear b hF r)
  | (go_at_call 149;refine (z.o _ A.o).mono ?_;rintro Y w3 ⟨rfl,b,hF⟩;have B:=zq b;have y:=zq (x.o.trans hF);have q:=hF.blk G.o kah;obtain ⟨y0,y1,y2,y3,y4,y5,y6,y7,z0,z1,z2,z3,z4,z5,z6,z7⟩:=zaw q;have I:=zq q;clear b hF q))
 all_goals
  obtain ⟨J,L,M⟩:=zbn hg O I.o B.o y.o (.int .i64 0) (.string ⟨#[]⟩) (.string ⟨#[]⟩) (.slice none 0 0) (.slice none 0 0) (.slice none 0 0) (.slice none 0 0) (.int .i64 (tk toks s.i).place);refine qaf (zbg rfl _ _ W.heap.size 60 (zbl (tk toks s.i).place) (0,0) _ rfl J underlying60 rfl kae) rfl ?_;exact ⟨rfl,L,M⟩
end
end
section
theorem zaz {P:Program} {W:World} {ops:Array Oper} {rest:List Oper} {o:Oper} {a:Act} {Q:Exit->Act->World->Prop} {m:Nat} (y:W.heap.size=m) (b:Nat) (p:o.guard=none) (s x:Operand) (t e:TypeId) (z:Value) (size bytes:Nat)
  (A:o.op = .call { callee := .builtin .append,args:=#[s,x],argTypes:=#[t,t] })
  (ht:P.underlying t=some (.slice e)) (q:(P.info? e).map (fun i=>(i.zero,i.size,i.bytes))=some (some z,size,bytes)) (G:z.cells.size=size) (B:0<size)
  (v:Value) (n:Nat) (xs ys:List Value) (hs:a.eval s=v) (D:a.eval x = .slice (some ⟨m,0,none⟩) 1 1) (E:ys.length=size) (h1:∀ u∈ys,u.oneCell'=true)
  (d:Row W b e size v n xs) (j:b<=W.heap.size) (w:n+1<=maxLen) (r:(n+1)*bytes<=140737488355328)
  (h:∀ v1 w1,Row w1 b e size v1 (n+1) (xs++ys)->W.grownBy w1 v.ownBlock->(v1.ownBlock=v.ownBlock\/v1.ownBlock=some (W.heap.size+1))->v1.ownBlock≠none->wpList P ops Q rest (a.put o.dst v1) w1) :
  wpList P ops Q (o::rest) a (W.alloc (.cells ys.toArray e)):=by
 subst y;exact zbi (w0:=W) b p s x t e z size bytes A ht q G B v n xs ys hs D E h1 d j w r fun v1 w1 a1 a2 a3 a4 _=>h v1 w1 a1 a2 a3 a4
def zen (W:World) (g T c:Nat) (toks:List Tok) (Q:S60->Int->RS->Prop) (e:Ending) (W':World):Prop:=
 ∃ x d cs L st,e = .returned (.tuple #[.agg cs.toArray,.int .i64 d])/\Tree W' W.heap.size x cs L/\RSt W' g T c toks st/\Fr W W' (·=g)/\Q x d st
def OkQ (r:PR CD) (p:Int) (x:S60) (d:Int) (st:RS):Prop:=match r with
 | .ok y j=>x=y.1/\d=y.2/\y.2<=16/\st=⟨j,0,p⟩
 | .bad e q=>st.e=e/\st.p=q/\e≠0
def ErrQ (b:RS) (x:S60) (d:Int) (st:RS):Prop:=st=b
structure RowR (W:World) (g T c:Nat) (toks:List Tok) (st:RS) (m:Nat) (kd a:Int) (l:List S60) (v:Value) (W':World):Prop where
 st:RSt W' g T c toks st
 fr:Fr W W' (·=g)
 res:W'.heap[W.heap.size]?=some (.cells zbe 60 (0,0))
 cnd:W'.heap[m]?=some (.cells #[.int .i64 kd,.string ⟨#[]⟩,.string ⟨#[]⟩,.slice none 0 0,.slice none 0 0,.slice none 0 0,v,.int .i64 a] 60 (0,0))
 lt:W.heap.size<m
 row:∃ cells L,Row W' (W.heap.size+1) 60 8 v l.length cells/\Forest W' (W.heap.size+1) l cells L/\(∀ b,v.ownBlock=some b->b∉L/\b≠m)/\m∉L
 pos:0<l.length
 many:l.length<=33
section
variable {W W1 W2:World} {g T c m:Nat} {toks:List Tok} {st ay:RS} {kd a:Int} {l:List S60} {v:Value}
theorem RowR.move (h:RowR W g T c toks st m kd a l v W1) (hg:g<W.heap.size) (o:RSt W2 g T c toks ay) (hF:Fr W1 W2 (·=g)):RowR W g T c toks ay m kd a l v W2:=by
 obtain ⟨cells,L,h1,i,j,n⟩:=h.row;have p:=h.lt;exact ⟨o,h.fr.trans hF,hF.blk h.res kab,hF.blk h.cnd kab,h.lt,⟨cells,L,h1.fr hF (fun d b e=>by have:=(h1.blk b).1;omega),i.fr hF (fun d b e=>by have:=(i.lt d b).1;omega),j,n⟩,h.pos,h.many⟩
theorem RowR.start {x:S60} {cs:List Value} {L:List Nat} (hg:g<W.heap.size) (o:T<W.heap.size) (e:Tree W1 (W.heap.size+1) x cs L) (j:RSt W1 g T c toks st) (hF:Fr W W1 (·=g)) (hs:W.heap.size+1<=W1.heap.size) (n:W1.heap[W.heap.size]?=some (.cells zbe 60 (0,0))) (kd a:Int) :
  RowR W g T c toks st (W1.heap.size+1+1) kd a [x] (.slice (some ⟨W1.heap.size+1,0,none⟩) 1 1)
   (((W1.alloc (.cells cs.toArray 60)).alloc (.cells cs.toArray 60)).alloc (.cells #[.int .i64 kd,.string ⟨#[]⟩,.string ⟨#[]⟩,.slice none 0 0,.slice none 0 0,.slice none 0 0,.slice (some ⟨W1.heap.size+1,0,none⟩) 1 1,.int .i64 a] 60)):=by
 have hf:Forest (((W1.alloc (.cells cs.toArray 60)).alloc (.cells cs.toArray 60)).alloc (.cells #[.int .i64 kd,.string ⟨#[]⟩,.string ⟨#[]⟩,.slice none 0 0,.slice none 0 0,.slice none 0 0,.slice (some ⟨W1.heap.size+1,0,none⟩) 1 1,.int .i64 a] 60)) (W.heap.size+1) [x] (cs++[]) (L++[]) := .cons (((e.alloc _).alloc _).alloc _) .nil;rw [List.append_nil,List.append_nil] at hf;have hr:=zqp (W1.alloc (.cells cs.toArray 60)) (W.heap.size+1) 60 8 1 cs kax e.length (by unfold maxLen;omega);rw [qae] at hr;have d:=qab ((W1.alloc (.cells cs.toArray 60)).alloc (.cells cs.toArray 60)) (.cells #[.int .i64 kd,.string ⟨#[]⟩,.string ⟨#[]⟩,.slice none 0 0,.slice none 0 0,.slice none 0 0,.slice (some ⟨W1.heap.size+1,0,none⟩) 1 1,.int .i64 a] 60);rw [qae,qae] at d;refine ⟨((j.alloc _).alloc _).alloc _,((hF.alloc _).alloc _).alloc _,zaf (zaf (zaf n _) _) _,d,kab,⟨cs,L,hr.alloc _,hf,fun b i=>?_,fun d=>?_⟩,by simp,by simp⟩
 ·have i:W1.heap.size+1=b:=by simpa [Value.ownBlock] using i
  exact ⟨fun d=>by have:=(e.lt b d).2;omega,kab⟩
 have:=(e.lt _ d).2;omega
theorem RowR.snoc {x:S60} {cs cells:List Value} {L M:List Nat} {v1:Value} {w1:World} (h:RowR W g T c toks st m kd a l v W2) (hg:g<W.heap.size) (hT:T<W.heap.size) (hl:l.length<33)
  (af:Row W2 (W.heap.size+1) 60 8 v l.length cells) (u:Forest W2 (W.heap.size+1) l cells L) (r:∀ b,v.ownBlock=some b->b∉L/\b≠m) (Y:m∉L) {p:Nat} (I:W.heap.size+1<=p) (a6:m<p) (z:∀ b,v.ownBlock=some b->b<p)
  (n:Tree W2 p x cs M) (ad:Row w1 (W.heap.size+1) 60 8 v1 (l.length+1) (cells++cs)) (w:W2.grownBy w1 v.ownBlock) (d:v1.ownBlock=v.ownBlock\/v1.ownBlock=some (W2.heap.size+1)) :
  RowR W g T c toks st m kd a (l++[x]) v1 (w1.setCell ⟨m,6,none⟩ v1):=by
 have a1:=h.lt;have q:∀ b,v.ownBlock=some b->W.heap.size+1<=b:=fun b j=>(af.blk j).1;have far:∀ k,k<W2.heap.size->v.ownBlock≠some k->w1.heap[k]?=W2.heap[k]?:=fun k hk hn=>w.block k hk (fun e=>hn e.symm);have X:=h.st.lts.1;have G:=h.st.lts.2.1;have Z:=zam h.cnd;have B:v.ownBlock≠some m:=fun e=>(r m e).2 rfl;have A:v1.ownBlock≠some m:=fun e=>by
  rcases d with d|d
  ·exact B (d ▸ e)
  rw [e] at d;have:=qaa d;omega
 have J:=(far m Z B).trans h.cnd;have D:Fr W w1 (·=g):=h.fr.then_ (Fr.of_grown (S:=fun k=>some k=v.ownBlock) w (fun k hk=>hk.symm)) (fun k hk => .inr (by have:=q k hk.symm;omega));have o:Fr w1 (w1.setCell ⟨m,6,none⟩ v1) (·=m):=Fr.setCell (S:=(·=m)) (Fr.refl _ _) (.inl rfl) _;have E:RSt w1 g T c toks st:=h.st.blk (far g X fun e=>by have:=q g e;omega) (far T G fun e=>by have:=q T e;omega);have O:=Forest.snoc (u.frame (w1:=w1) fun k hk=>far k (u.lt k hk).2 fun e=>(r k e).1 hk) (Tree.lower I (n.frame (w1:=w1) fun k hk=>far k (n.lt k hk).2 fun e=>by
  have:=z k e;have:=(n.lt k hk).1;omega))
 have y:m∉L++M:=fun i=>by
  rcases qbi.1 i with i|i
  ·exact Y i
  have:=(n.lt m i).1;omega
 refine ⟨E.fr o kab kab,D.then_ o fun k hk => .inr kab,o.blk ((far _ (zam h.res) fun e=>by have:=q _ e;omega).trans h.res) kab,zan J 6 v1 rfl,h.lt,⟨cells++cs,L++M,?_,O.fr o (fun k hk e=>y (e ▸ hk)),?_,y⟩,by simp,kbl⟩
 ·rw [qal];exact ad.fr o fun g' U e=>A (by rw [U,e])
 intro b j;refine ⟨fun i=>?_,fun e=>A (e ▸ j)⟩;rcases qbi.1 i with i|i
 ·rcases d with d|d
  ·exact (r b (d ▸ j)).1 i
  have h1:=(u.lt b i).2;rw [j] at d;have:=qaa d;omega
 rcases d with d|d
 ·have:=z b (d ▸ j);have:=(n.lt b i).1;omega
 have h1:=(n.lt b i).2;rw [j] at d;have:=qaa d;omega
theorem RowR.over (h:RowR W g T c toks st m kd a l v W1):∃ A cap L,v = .slice A l.length cap/\l.length<=cap/\Zq (Tree W1 (W.heap.size+1) ⟨kd,⟨#[]⟩,⟨#[]⟩,[],[],[],l,a⟩ [.int .i64 kd,.string ⟨#[]⟩,.string ⟨#[]⟩,.slice none 0 0,.slice none 0 0,.slice none 0 0,.slice A l.length cap,.int .i64 a] L) /\
  W1.cell? ⟨m,6,none⟩=some (.slice A l.length cap)/\W1.frozen? ⟨m,6,none⟩=false:=by
 obtain ⟨cells,L,h1,b,e,i⟩:=h.row;obtain ⟨A,cap,rfl,d,-⟩:=h1.form;exact ⟨A,cap,_,rfl,d,⟨zlx kd a h1 b⟩,zab h.cnd 6,zac h.cnd 6⟩
end
end
section
def RowL (toks:List Tok) (part:Nat->Option (PR CD)) (kind:Int) (word:ByteArray) (res:PR CD) (p:Int) (k:Nat) (st:RS) (l:List S60) (d:Int) (b:Bool):Prop:=
 (∃ i j:Nat,d=(j:Int)/\j<=16/\b=isT (tk toks i) word/\i<toks.length/\st=⟨if b=true then i+1 else i,0,p⟩/\(b=false->2<=l.length)/\l.length<=32/\rowL toks part kind word k i l j=some res)\/(b=false/\st.e≠0/\res = .bad st.e st.p)
theorem zdy (toks:List Tok) (w:ByteArray) (j:Nat) (p:Int):isR toks w ⟨j,0,p⟩=isT (tk toks j) w:=by simp [isR]
theorem zjw (toks:List Tok) (w:ByteArray) (j:Nat) (p:Int):mayR toks w ⟨j,0,p⟩=⟨if isT (tk toks j) w=true then j+1 else j,0,p⟩:=by
 unfold mayR;rw [zdy];by_cases h:isT (tk toks j) w=true
 ·rw [if_pos h,if_pos h]
 rw [if_neg h,if_neg h]
theorem zrm {toks:List Tok} {part:Nat->Option (PR CD)} {kd:Int} {word:ByteArray} {res:PR CD} {p:Int} {k:Nat} {st:RS} {l:List S60} {b:Nat} {d:Int} {x:S60} {r:PR CD} (o:OkQ r p x d st) (hi:st.i<toks.length) (z:b<=16) (B:0<l.length) (A:l.length<32)
  (hr:(match (some r:Option (PR CD)) with|none=>none|some (.bad e q)=>some (.bad e q)|some (.ok c j)=>rowL toks part kd word k j (l++[c.1]) (max b c.2))=some res) :
  RowL toks part kd word res p k (mayR toks word st) (l++[x]) (max (b:Int) d) (isR toks word st):=by
 cases r with
 | bad e q=>
  obtain ⟨h1,u,w⟩:=o;have n:st.e≠0:=by rw [h1];exact w
  rw [zea toks n,zde toks n];exact .inr ⟨rfl,n,by rw [h1,u];exact (qaa hr).symm⟩
 | ok c j=>
  obtain ⟨rfl,rfl,y,rfl⟩:=o;rw [zdy,zjw];exact .inl ⟨j,max b c.2,kab,kab,rfl,hi,rfl,fun _=>by simp;omega,kbl,hr⟩
theorem zrn {toks:List Tok} {part:Nat->Option (PR CD)} {kd:Int} {word:ByteArray} {res:PR CD} {p:Int} {k:Nat} {st:RS} {l:List S60} {d a:Int} (w:RowL toks part kd word res p k st l d false) (u:l.head?.map (·.f7)=some a) :
  OkQ res p ⟨kd,⟨#[]⟩,⟨#[]⟩,[],[],[],l,a⟩ (wrap64 (d+1)) (if wrap64 (d+1)>16 then zcc 91 a st else st):=by
 rcases w with ⟨i,e,rfl,z,x,hi,rfl,j,y,hr⟩|⟨-,q,rfl⟩
 ·have j:=j rfl;have n:wrap64 ((e:Int)+1)=((e+1:Nat):Int):=by unfold wrap64;omega
  cases k with
  | zero=>simp [rowL] at hr
  | succ k=>
  unfold rowL at hr;rw [if_neg (by rw [<-x];decide)] at hr;have hr:zkc ⟨kd,⟨#[]⟩,⟨#[]⟩,[],[],[],l,(l.head?.map (·.f7)).getD 0⟩ e i=res:=by
   revert hr;cases l with
   | nil=>intro hr;exact qaa hr
   | cons a r=>cases r with
    | nil=>simp at j
    | cons b r=>intro hr;exact qaa hr
  rw [u] at hr;unfold zkc at hr;rw [n];by_cases o:e+1>16
  ·rw [if_pos o] at hr;rw [if_pos kab];subst hr;exact ⟨rfl,rfl,kad⟩
  rw [if_neg o] at hr;rw [if_neg kab];subst hr;exact ⟨rfl,rfl,by show e+1<=16;omega,rfl⟩
 have n:zcc 91 a st=st:=if_neg q;rw [n];split<;>exact ⟨rfl,rfl,q⟩
section
variable (g T c:Nat) (toks:List Tok) (aa:∀ k,k<toks.length->(tk toks k).kind≠8->k+1<toks.length)
include aa
theorem rowR_and (part:Nat->Option (PR CD)) (W:World) (K i:Nat) (p:Int) (res:PR CD) (hK:0<K) (hi:i<toks.length) (h:RSt W g T c toks ⟨i,0,p⟩) (O:rowP toks part 5 sAnd K i=some res)
  (bu:∀ j r W',j<toks.length->part j=some r->RSt W' g T c toks ⟨j,0,p⟩->Calls prog 89 #[.pointer (some ⟨g,0,none⟩),.string sAnd] W' (zen W' g T c toks (OkQ r p)))
  (b8:∀ st W',st.e≠0->RSt W' g T c toks st->Calls prog 89 #[.pointer (some ⟨g,0,none⟩),.string sAnd] W' (zen W' g T c toks (ErrQ st))) :
  Calls prog 59 #[.pointer (some ⟨g,0,none⟩),.string sAnd] W (zen W g T c toks (OkQ res p)):=by
 have hg:=h.lts.1;have hT:=h.lts.2.1;unfold rowP at O;cases hr:part i with
 | none=>rw [hr] at O;cases O
 | some r=>
 rw [hr] at O;have HO:=zq (fun W' J=>bu i r W' hi hr J);have HM:=zq (fun W' st J=>zcw g T c toks aa W' st sAnd J);have ae:=zq (h.alloc (.cells zbe 60));have bJ:=zq (qab W (.cells zbe 60));have bB:=zq ((Fr.refl W (·=g)).alloc (.cells zbe 60));have b3:=zq bu;have bx:=zq b8;have bA:=zq aa;have aQ:=zq O;clear h hr O bu b8 aa;have bU:((sAnd:ByteArray).toList==[111,114])=false:=kae;go_enter func59,ntmps59;go_upto_region 6 with (first
  | (go_at_call 89;refine (HO.o _ ae.o).mono ?_;rintro e1 w1 ⟨x,d,cs,L,st,rfl,I,z,hF,hQ⟩;obtain ⟨v3,v4,v5,v6,rfl,-,-,-,-,A3,n3,c3,A4,n4,c4,A5,n5,c5,A6,n6,c6,rfl,rfl,rfl,rfl⟩:=zax I;have ba:=hF.size;rw [qae] at I ba;have HI:=zq (RowR.start hg hT I z (bB.o.trans hF) ba (hF.blk bJ.o kah) 5 x.f7);have HC:=zq (zaf (zaf (qab w1 (.cells #[.int .i64 x.f0,.string x.f1,.string x.f2,.slice A3 n3 c3,.slice A4 n4 c4,.slice A5 n5 c5,.slice A6 n6 c6,.int .i64 x.f7] 60)) (.cells #[.int .i64 x.f0,.string x.f1,.string x.f2,.slice A3 n3 c3,.slice A4 n4 c4,.slice A5 n5 c5,.slice A6 n6 c6,.int .i64 x.f7] 60)) (.cells #[.int .i64 5,.string ⟨#[]⟩,.string ⟨#[]⟩,.slice none 0 0,.slice none 0 0,.slice none 0 0,.slice (some ⟨w1.heap.size+1,0,none⟩) 1 1,.int .i64 x.f7] 60));have aK:=zq I;have HQ:=zq hQ;have au:=zq ba;clear I z hF hQ ba HO)
  | (go_at_call 88;refine (HM.o _ _ HI.o.st).mono ?_;rintro e2 w2 ⟨rfl,z,hF⟩;have a1:=zq (HI.o.move hg z hF);have G:=zq (hF.blk HC.o (by show ¬w1.heap.size=g;have:=au.o;omega));have an:=zq hF;clear z hF))
 cases r with
 | bad e1 q1=>
  obtain ⟨bk,b6,bp⟩:=HQ.o;have he:st.e≠0:=by rw [bk];exact bp
  have O:=qaa aQ.o;subst O;rw [zde toks he] at a1;simp only [zea toks he];have bG:=zq (And.intro bk (And.intro b6 bp));clear bk b6 bp he HQ;obtain ⟨y0,y1,y2,y3,y4,y5,y6,y7,z0,z1,z2,z3,z4,z5,z6,z7⟩:=zaw a1.o.res;have q0:=zab G.o 0;have q1:=zab G.o 1;have q2:=zab G.o 2;have q3:=zab G.o 3;have q4:=zab G.o 4;have q5:=zab G.o 5;have q6:=zab G.o 6;have q7:=zab G.o 7;have bM:w1.heap.size≠W.heap.size:=kca;go_wp2;obtain ⟨R1,R2,R3⟩:=zbn hg hT a1.o.res a1.o.st a1.o.fr (.int .i64 x.f0) (.string x.f1) (.string x.f2) (.slice A3 n3 c3) (.slice A4 n4 c4) (.slice A5 n5 c5) (.slice A6 n6 c6) (.int .i64 x.f7);refine qaf (zbg rfl _ _ W.heap.size 60 #[.int .i64 x.f0,.string x.f1,.string x.f2,.slice A3 n3 c3,.slice A4 n4 c4,.slice A5 n5 c5,.slice A6 n6 c6,.int .i64 x.f7] (0,0) _ rfl R1 underlying60 rfl kae) rfl ?_;have aT:=((((aK.o.alloc _).alloc _).alloc _).fr an.o fun E B e=>by have:=(aK.o.lt E B).1;omega).fr (zbo w2 W.heap.size (.int .i64 x.f0) (.string x.f1) (.string x.f2) (.slice A3 n3 c3) (.slice A4 n4 c4) (.slice A5 n5 c5) (.slice A6 n6 c6) (.int .i64 x.f7)) fun E B e=>by have:=(aK.o.lt E B).1;omega
  exact ⟨x,d,_,L,st,rfl,aT.lower kab,R2,R3,bG.o⟩
 | ok y j=>
  obtain ⟨rfl,rfl,b7,rfl⟩:=HQ.o;have aV:isR toks sAnd ⟨j,0,p⟩=isT (tk toks j) sAnd:=by simp [isR]
  simp only [aV];by_cases hj:isT (tk toks j) sAnd=true
  ·have bN:=bA.o j (by have:=HI.o.st.here;exact this) (zcd hj);have hm:mayR toks sAnd ⟨j,0,p⟩=⟨j+1,0,p⟩:=(by unfold mayR;rw [aV,hj];rfl);rw [hm] at a1;simp only [hj];have b4:=zq (show RowL toks part 5 sAnd res p K ⟨j+1,0,p⟩ [y.1] (y.2:Int) true from .inl ⟨j,y.2,rfl,b7,hj.symm,HI.o.st.here,rfl,(fun h=>by cases h),by simp,aQ.o⟩);clear aV hj hm HQ aQ bN HC G an aK HI;go_wp2;go_loopg [7,9] K (fun k deep more wr=>∃ ay:RS,∃ l:List S60,∃ v:Value,∃ d:Int,∃ b:Bool,deep = .int .i64 d/\more = .bool b/\Zq (RowR W g T c toks ay (w1.heap.size+1+1) 5 y.1.f7 l v wr)/\Zq (RowL toks part 5 sAnd res p k ay l d b)/\Zq (l.head?.map (·.f7)=some y.1.f7));case atStart=>exact ⟨_,[y.1],_,_,_,rfl,rfl,a1,b4,⟨rfl⟩⟩
   case round=>
    obtain ⟨ay,l,v,d,b,rfl,rfl,HX,HL,HH⟩:=hrel;clear a1 b4;obtain ⟨A,cap,L2,rfl,bQ,bb,c6,f6⟩:=HX.o.over;cases b with
    | true=>
     rcases HL.o with ⟨D,dn,rfl,bq,hb,bR,rfl,-,bP,hr⟩|⟨hf,-⟩
     ·simp only [if_true] at HX;have b9:D+1<toks.length:=HX.o.st.here;cases gk with
      | zero=>simp [rowL] at hr
      | succ k=>
      unfold rowL at hr;rw [if_pos hb.symm] at hr;have aY:=HX.o.pos;by_cases aX:l.length=32
      ·rw [if_pos aX] at hr;have aZ:=zq (qaa hr);have bd:(l.length:Int)=32:=kab;have bw:=zq (show (32:Nat)=l.length by omega);have aN:=zq (fun W' J=>zjp W' g T c toks ⟨D+1,0,p⟩ J);have bH:=zq (fun W' J=>zdm W' g T c toks ⟨D+1,0,p⟩ 92 (tk toks (D+1)).place J);have bS:=HX.o.st.many;have hbd:0<=(D:Int)+1/\(D:Int)+1<(toks.length:Int):=kab;clear hr hb bq HL b3;cases aO:zdh (tk toks (D+1)) with
       | true=>
        rw [aO] at aZ;dsimp only at aN;rw [aO] at aN;have bv:zbv toks (zcc 92 (tk toks (D+1)).place ⟨D+1,0,p⟩)=⟨D+1,92,(tk toks (D+1)).place⟩:=(by simp [zbv,zcc]);have a8:(⟨D+1,92,(tk toks (D+1)).place⟩:RS).e≠0:=(by show (92:Int)≠0;decide);have bc:=zq (fun W' J=>zdo W' g T c toks (zcc 92 (tk toks (D+1)).place ⟨D+1,0,p⟩) J);clear aO;go_wp2_with (go_at_call 90;refine (aN.o _ HX.o.st).mono ?_;rintro e8 w8 ⟨rfl,hB⟩;have HX:=zq (HX.o.move hg (HX.o.st.below hB) (Fr.of_below hB));obtain ⟨u0,u1,u2,e0,e1,e2,e3,e4,e5⟩:=HX.o.st.look;clear hB);go_region_law (go_simp;go_at_call 33;refine (bH.o _ (by first|exact HX.o.st|exact HX.o.st.drew)).mono ?_;rintro e9 w9 ⟨rfl,z,hF⟩;have HX:=zq (HX.o.move hg z (by first|exact hF|exact hF.undrew));clear z hF);go_wp2_with (first
        | (go_at_call 56;refine (bc.o _ HX.o.st).mono ?_;rintro bL bO ⟨rfl,z,hF⟩;rw [bv] at z;have HX:=zq (HX.o.move hg z hF);clear z hF)
        | (go_at_call 89;refine (bx.o _ _ a8 HX.o.st).mono ?_;rintro e2 w2 ⟨w,d2,cs,M,aP,rfl,I,z,hF,hQ⟩;obtain ⟨v3,v4,v5,v6,rfl,-,-,-,-,B3,m3,k3,U,m4,k4,X,m5,k5,Y,m6,k6,rfl,rfl,rfl,rfl⟩:=zax I;have ab:=zq (HX.o.move hg z hF);have ka:=fun o=>zab (zaf ab.o.cnd o) 6;simp only [qaj,qaw,qag] at ka;obtain ⟨cells,L,af,a6,aH,aI⟩:=HX.o.row;have aE:=zq ((af.fr hF fun E B e=>by have:=(af.blk B).1;omega).alloc (.cells #[.int .i64 w.f0,.string w.f1,.string w.f2,.slice B3 m3 k3,.slice U m4 k4,.slice X m5 k5,.slice Y m6 k6,.int .i64 w.f7] 60));have aG:=zq (And.intro (zam HX.o.res) hF.size);have aR:=zq I;have hQ:aP=_:=hQ;subst hQ;have bz:=zq hF;have aD:=zq (a6.fr hF fun E B e=>by have:=(a6.lt E B).1;omega);have av:=zq (And.intro aH aI);have aC:=zq (And.intro (zam HX.o.cnd) (fun b hb=>(af.blk hb).2.1:∀ b,(Value.slice A l.length cap).ownBlock=some b->b<_));clear I z hF af a6 aH aI)
        | ((with_reducible refine zas (b := .append) (xs:=#[.tmp 64,.tmp 66]) rfl ?_);at_builtin;refine zaz (qae ..) (W.heap.size+1) rfl (.tmp 64) (.tmp 66) 58 60 (.agg #[.int .i64 0,.string ⟨#[]⟩,.string ⟨#[]⟩,.slice none 0 0,.slice none 0 0,.slice none 0 0,.slice none 0 0,.int .i64 0]) 8 144 rfl rfl rfl rfl kad (.slice A l.length cap) l.length cells [.int .i64 w.f0,.string w.f1,.string w.f2,.slice B3 m3 k3,.slice U m4 k4,.slice X m5 k5,.slice Y m6 k6,.int .i64 w.f7] (congrArg (fun n:Nat=>Value.slice A n cap) bw.o) rfl rfl ?aU aE.o ?aB ?aM ?aL ?_;(case aU=>intro u hu;simp at hu;rcases hu with rfl|rfl|rfl|rfl|rfl|rfl|rfl|rfl<;>rfl);(case aB=>have:=aG.o;rw [qae];omega);(case aM=>simp only [maxLen];omega);(case aL=>omega);intro v1 w3 ad Z a7 aW;have aJ:(Value.slice A l.length cap).ownBlock≠some (w1.heap.size+1+1):=kbq;have aA:=(Z.block _ (Nat.lt_trans (zam ab.o.cnd) kax) (fun e=>aJ e.symm)).trans (zaf ab.o.cnd (.cells #[.int .i64 w.f0,.string w.f1,.string w.f2,.slice B3 m3 k3,.slice U m4 k4,.slice X m5 k5,.slice Y m6 k6,.int .i64 w.f7] 60));have g6:=zac aA 6;have h6:=zab aA 6;simp only [qaj,qaw,qag] at h6;have b5:=zq ad;have b1:=zq Z;have b2:=zq a7;have aF:=zq (RowR.snoc (ab.o.move hg (ab.o.st.alloc (.cells #[.int .i64 w.f0,.string w.f1,.string w.f2,.slice B3 m3 k3,.slice U m4 k4,.slice X m5 k5,.slice Y m6 k6,.int .i64 w.f7] 60)) ((Fr.refl w2 (·=g)).alloc _)) hg hT kab aE.o (aD.o.frame fun k hk=>qbm w2 _ k (aD.o.lt k hk).2) av.o.1 av.o.2 (by have:=aG.o.1;omega) aC.o.1 aC.o.2 (aR.o.alloc _) ad Z a7);obtain ⟨A9,c9,rfl,-,-⟩:=ad.form;clear ad Z a7 aW aA aJ;(try clear bd);(try clear aX))
        | (go_at_call 88;refine (HM.o _ _ aF.o.st).mono ?_;rintro e4 w4 ⟨rfl,z,hF⟩;have aS:=zq (aF.o.move hg z hF);clear z hF))
        all_goals (go_roundg k;(case measure=>omega);(case rel=>exact ⟨_,l++[w],_,_,_,rfl,rfl,aS,⟨.inr ⟨zea toks a8,by rw [zde toks a8];exact a8,by rw [zde toks a8];simpa using aZ.o.symm⟩⟩,⟨by have:=HH.o;cases l with|nil=>simp at aY|cons q r=>exact this⟩⟩))
       | false=>
        rw [aO] at aZ;dsimp only at aN;rw [aO] at aN;have bv:zbv toks ⟨D+1,0,p⟩=⟨D+1,90,(tk toks (D+1)).place⟩:=(by simp [zbv,zcc]);have a8:(⟨D+1,90,(tk toks (D+1)).place⟩:RS).e≠0:=(by show (90:Int)≠0;decide);have bc:=zq (fun W' J=>zdo W' g T c toks ⟨D+1,0,p⟩ J);clear aO;go_wp2_with (first
        | (go_at_call 90;refine (aN.o _ HX.o.st).mono ?_;rintro e8 w8 ⟨rfl,hB⟩;have HX:=zq (HX.o.move hg (HX.o.st.below hB) (Fr.of_below hB));obtain ⟨u0,u1,u2,e0,e1,e2,e3,e4,e5⟩:=HX.o.st.look;clear hB)
        | (go_at_call 56;refine (bc.o _ HX.o.st).mono ?_;rintro bL bO ⟨rfl,z,hF⟩;rw [bv] at z;have HX:=zq (HX.o.move hg z hF);clear z hF)
        | (go_at_call 89;refine (bx.o _ _ a8 HX.o.st).mono ?_;rintro e2 w2 ⟨w,d2,cs,M,aP,rfl,I,z,hF,hQ⟩;obtain ⟨v3,v4,v5,v6,rfl,-,-,-,-,B3,m3,k3,U,m4,k4,X,m5,k5,Y,m6,k6,rfl,rfl,rfl,rfl⟩:=zax I;have ab:=zq (HX.o.move hg z hF);have ka:=fun o=>zab (zaf ab.o.cnd o) 6;simp only [qaj,qaw,qag] at ka;obtain ⟨cells,L,af,a6,aH,aI⟩:=HX.o.row;have aE:=zq ((af.fr hF fun E B e=>by have:=(af.blk B).1;omega).alloc (.cells #[.int .i64 w.f0,.string w.f1,.string w.f2,.slice B3 m3 k3,.slice U m4 k4,.slice X m5 k5,.slice Y m6 k6,.int .i64 w.f7] 60));have aG:=zq (And.intro (zam HX.o.res) hF.size);have aR:=zq I;have hQ:aP=_:=hQ;subst hQ;have bz:=zq hF;have aD:=zq (a6.fr hF fun E B e=>by have:=(a6.lt E B).1;omega);have av:=zq (And.intro aH aI);have aC:=zq (And.intro (zam HX.o.cnd) (fun b hb=>(af.blk hb).2.1:∀ b,(Value.slice A l.length cap).ownBlock=some b->b<_));clear I z hF af a6 aH aI)
        | ((with_reducible refine zas (b := .append) (xs:=#[.tmp 64,.tmp 66]) rfl ?_);at_builtin;refine zaz (qae ..) (W.heap.size+1) rfl (.tmp 64) (.tmp 66) 58 60 (.agg #[.int .i64 0,.string ⟨#[]⟩,.string ⟨#[]⟩,.slice none 0 0,.slice none 0 0,.slice none 0 0,.slice none 0 0,.int .i64 0]) 8 144 rfl rfl rfl rfl kad (.slice A l.length cap) l.length cells [.int .i64 w.f0,.string w.f1,.string w.f2,.slice B3 m3 k3,.slice U m4 k4,.slice X m5 k5,.slice Y m6 k6,.int .i64 w.f7] (congrArg (fun n:Nat=>Value.slice A n cap) bw.o) rfl rfl ?aU aE.o ?aB ?aM ?aL ?_;(case aU=>intro u hu;simp at hu;rcases hu with rfl|rfl|rfl|rfl|rfl|rfl|rfl|rfl<;>rfl);(case aB=>have:=aG.o;rw [qae];omega);(case aM=>simp only [maxLen];omega);(case aL=>omega);intro v1 w3 ad Z a7 aW;have aJ:(Value.slice A l.length cap).ownBlock≠some (w1.heap.size+1+1):=kbq;have aA:=(Z.block _ (Nat.lt_trans (zam ab.o.cnd) kax) (fun e=>aJ e.symm)).trans (zaf ab.o.cnd (.cells #[.int .i64 w.f0,.string w.f1,.string w.f2,.slice B3 m3 k3,.slice U m4 k4,.slice X m5 k5,.slice Y m6 k6,.int .i64 w.f7] 60));have g6:=zac aA 6;have h6:=zab aA 6;simp only [qaj,qaw,qag] at h6;have b5:=zq ad;have b1:=zq Z;have b2:=zq a7;have aF:=zq (RowR.snoc (ab.o.move hg (ab.o.st.alloc (.cells #[.int .i64 w.f0,.string w.f1,.string w.f2,.slice B3 m3 k3,.slice U m4 k4,.slice X m5 k5,.slice Y m6 k6,.int .i64 w.f7] 60)) ((Fr.refl w2 (·=g)).alloc _)) hg hT kab aE.o (aD.o.frame fun k hk=>qbm w2 _ k (aD.o.lt k hk).2) av.o.1 av.o.2 (by have:=aG.o.1;omega) aC.o.1 aC.o.2 (aR.o.alloc _) ad Z a7);obtain ⟨A9,c9,rfl,-,-⟩:=ad.form;clear ad Z a7 aW aA aJ;(try clear bd);(try clear aX))
        | (go_at_call 88;refine (HM.o _ _ aF.o.st).mono ?_;rintro e4 w4 ⟨rfl,z,hF⟩;have aS:=zq (aF.o.move hg z hF);clear z hF))
        go_roundg k
        case measure=>omega
        case rel=>exact ⟨_,l++[w],_,_,_,rfl,rfl,aS,⟨.inr ⟨zea toks a8,by rw [zde toks a8];exact a8,by rw [zde toks a8];simpa using aZ.o.symm⟩⟩,⟨by have:=HH.o;cases l with|nil=>simp at aY|cons q r=>exact this⟩⟩
      rw [if_neg aX] at hr;have bd:¬(l.length:Int)=32:=kab;cases hp:part (D+1) with
      | none=>rw [hp] at hr;cases hr
      | some r=>
      rw [hp] at hr;have bF:=zq (fun W' J=>b3.o (D+1) r W' b9 hp J);have HR:=zq hr;have bD:=zq bq;clear hr hp hb bq HL b9;go_wp2_with (first
       | (go_at_call 89;refine (bF.o _ HX.o.st).mono ?_;rintro e2 w2 ⟨w,d2,cs,M,aP,rfl,I,z,hF,hQ⟩;obtain ⟨v3,v4,v5,v6,rfl,-,-,-,-,B3,m3,k3,U,m4,k4,X,m5,k5,Y,m6,k6,rfl,rfl,rfl,rfl⟩:=zax I;have ab:=zq (HX.o.move hg z hF);have ka:=fun o=>zab (zaf ab.o.cnd o) 6;simp only [qaj,qaw,qag] at ka;obtain ⟨cells,L,af,a6,aH,aI⟩:=HX.o.row;have aE:=zq ((af.fr hF fun E B e=>by have:=(af.blk B).1;omega).alloc (.cells #[.int .i64 w.f0,.string w.f1,.string w.f2,.slice B3 m3 k3,.slice U m4 k4,.slice X m5 k5,.slice Y m6 k6,.int .i64 w.f7] 60));have aG:=zq (And.intro (zam HX.o.res) hF.size);have aR:=zq I;have HQ:=zq hQ;have bz:=zq hF;have aD:=zq (a6.fr hF fun E B e=>by have:=(a6.lt E B).1;omega);have av:=zq (And.intro aH aI);have aC:=zq (And.intro (zam HX.o.cnd) (fun b hb=>(af.blk hb).2.1:∀ b,(Value.slice A l.length cap).ownBlock=some b->b<_));clear I z hF hQ af a6 aH aI)
       | ((with_reducible refine zas (b := .append) (xs:=#[.tmp 64,.tmp 66]) rfl ?_);at_builtin;refine zaz (qae ..) (W.heap.size+1) rfl (.tmp 64) (.tmp 66) 58 60 (.agg #[.int .i64 0,.string ⟨#[]⟩,.string ⟨#[]⟩,.slice none 0 0,.slice none 0 0,.slice none 0 0,.slice none 0 0,.int .i64 0]) 8 144 rfl rfl rfl rfl kad (.slice A l.length cap) l.length cells [.int .i64 w.f0,.string w.f1,.string w.f2,.slice B3 m3 k3,.slice U m4 k4,.slice X m5 k5,.slice Y m6 k6,.int .i64 w.f7] rfl rfl rfl ?aU aE.o ?aB ?aM ?aL ?_;(case aU=>intro u hu;simp at hu;rcases hu with rfl|rfl|rfl|rfl|rfl|rfl|rfl|rfl<;>rfl);(case aB=>have:=aG.o;rw [qae];omega);(case aM=>simp only [maxLen];omega);(case aL=>omega);intro v1 w3 ad Z a7 aW;have aJ:(Value.slice A l.length cap).ownBlock≠some (w1.heap.size+1+1):=kbq;have aA:=(Z.block _ (Nat.lt_trans (zam ab.o.cnd) kax) (fun e=>aJ e.symm)).trans (zaf ab.o.cnd (.cells #[.int .i64 w.f0,.string w.f1,.string w.f2,.slice B3 m3 k3,.slice U m4 k4,.slice X m5 k5,.slice Y m6 k6,.int .i64 w.f7] 60));have g6:=zac aA 6;have h6:=zab aA 6;simp only [qaj,qaw,qag] at h6;have b5:=zq ad;have b1:=zq Z;have b2:=zq a7;have aF:=zq (RowR.snoc (ab.o.move hg (ab.o.st.alloc (.cells #[.int .i64 w.f0,.string w.f1,.string w.f2,.slice B3 m3 k3,.slice U m4 k4,.slice X m5 k5,.slice Y m6 k6,.int .i64 w.f7] 60)) ((Fr.refl w2 (·=g)).alloc _)) hg hT kab aE.o (aD.o.frame fun k hk=>qbm w2 _ k (aD.o.lt k hk).2) av.o.1 av.o.2 (by have:=aG.o.1;omega) aC.o.1 aC.o.2 (aR.o.alloc _) ad Z a7);obtain ⟨A9,c9,rfl,-,-⟩:=ad.form;clear ad Z a7 aW aA aJ)
       | (go_at_call 88;refine (HM.o _ _ aF.o.st).mono ?_;rintro e4 w4 ⟨rfl,z,hF⟩;have aS:=zq (aF.o.move hg z hF);clear z hF))
      go_roundg k
      case measure=>omega
      case rel=>exact ⟨_,l++[w],_,_,_,rfl,rfl,aS,⟨zrm HQ.o ab.o.st.here bD.o aY kab HR.o⟩,⟨by have:=HH.o;cases l with|nil=>simp at aY|cons q r=>exact this⟩⟩
     cases hf
    | false=>
     obtain ⟨c0,c1,c2,c3,c4,c5,-,c7⟩:=zeb HX.o.cnd;have bE:=zq (fun W' aP dd J=>ziq W' g T c toks aP dd 5 ⟨#[]⟩ ⟨#[]⟩ .nilIface .nilIface .nilIface .nilIface y.1.f7 none none none A 0 0 0 0 0 0 l.length cap J);have bT:w1.heap.size+1+1≠W.heap.size:=(by have:=HX.o.lt;omega);go_wp2_with (go_at_call 91;refine (bE.o _ _ _ HX.o.st).mono ?_;rintro e3 w3 ⟨rfl,z,hF⟩;have bI:=zq z;have b0:=zq hF;have hZ:=hF.blk HX.o.res kah;obtain ⟨y0,y1,y2,y3,y4,y5,y6,y7,z0,z1,z2,z3,z4,z5,z6,z7⟩:=zaw hZ;have bK:=zq hZ;clear z hF hZ);obtain ⟨R1,R2,R3⟩:=zbn hg hT bK.o bI.o (HX.o.fr.trans b0.o) (.int .i64 5) (.string ⟨#[]⟩) (.string ⟨#[]⟩) (.slice none 0 0) (.slice none 0 0) (.slice none 0 0) (.slice A l.length cap) (.int .i64 y.1.f7);refine qaf (zbg rfl _ _ W.heap.size 60 #[.int .i64 5,.string ⟨#[]⟩,.string ⟨#[]⟩,.slice none 0 0,.slice none 0 0,.slice none 0 0,.slice A l.length cap,.int .i64 y.1.f7] (0,0) _ rfl R1 underlying60 rfl kae) rfl ?_;have aT:=(bb.o.fr b0.o fun E B e=>by have:=(bb.o.lt E B).1;omega).fr (zbo w3 W.heap.size (.int .i64 5) (.string ⟨#[]⟩) (.string ⟨#[]⟩) (.slice none 0 0) (.slice none 0 0) (.slice none 0 0) (.slice A l.length cap) (.int .i64 y.1.f7)) fun E B e=>(by have:=(bb.o.lt E B).1;omega);exact ⟨_,_,_,_,_,rfl,aT.lower kab,R2,R3,zrn HL.o HH.o⟩
  have br:isT (tk toks j) sAnd=false:=by simpa using hj
  have O:=aQ.o;obtain ⟨K,rfl⟩:∃ K',K=K'+1:=⟨K-1,kab⟩;dsimp only at O;unfold rowL at O;rw [if_neg hj] at O;have O:=qaa O;subst O;have hm:mayR toks sAnd ⟨j,0,p⟩=⟨j,0,p⟩:=by unfold mayR;rw [aV,br];rfl
  rw [hm] at a1;simp only [br];clear aV hj br hm HQ aQ;obtain ⟨y0,y1,y2,y3,y4,y5,y6,y7,z0,z1,z2,z3,z4,z5,z6,z7⟩:=zaw a1.o.res;have q0:=zab G.o 0;have q1:=zab G.o 1;have q2:=zab G.o 2;have q3:=zab G.o 3;have q4:=zab G.o 4;have q5:=zab G.o 5;have q6:=zab G.o 6;have q7:=zab G.o 7;have bM:w1.heap.size≠W.heap.size:=kca;go_wp2;obtain ⟨R1,R2,R3⟩:=zbn hg hT a1.o.res a1.o.st a1.o.fr (.int .i64 y.1.f0) (.string y.1.f1) (.string y.1.f2) (.slice A3 n3 c3) (.slice A4 n4 c4) (.slice A5 n5 c5) (.slice A6 n6 c6) (.int .i64 y.1.f7);refine qaf (zbg rfl _ _ W.heap.size 60 #[.int .i64 y.1.f0,.string y.1.f1,.string y.1.f2,.slice A3 n3 c3,.slice A4 n4 c4,.slice A5 n5 c5,.slice A6 n6 c6,.int .i64 y.1.f7] (0,0) _ rfl R1 underlying60 rfl kae) rfl ?_;have aT:=((((aK.o.alloc _).alloc _).alloc _).fr an.o fun E B e=>by have:=(aK.o.lt E B).1;omega).fr (zbo w2 W.heap.size (.int .i64 y.1.f0) (.string y.1.f1) (.string y.1.f2) (.slice A3 n3 c3) (.slice A4 n4 c4) (.slice A5 n5 c5) (.slice A6 n6 c6) (.int .i64 y.1.f7)) fun E B e=>by have:=(aK.o.lt E B).1;omega
  exact ⟨y.1,(y.2:Int),_,L,_,rfl,aT.lower kab,R2,R3,rfl,rfl,b7,rfl⟩
theorem rowR_or (part:Nat->Option (PR CD)) (W:World) (K i:Nat) (p:Int) (res:PR CD) (hK:0<K) (hi:i<toks.length) (h:RSt W g T c toks ⟨i,0,p⟩) (O:rowP toks part 6 sOr K i=some res)
  (bu:∀ j r W',j<toks.length->part j=some r->RSt W' g T c toks ⟨j,0,p⟩->Calls prog 89 #[.pointer (some ⟨g,0,none⟩),.string sOr] W' (zen W' g T c toks (OkQ r p)))
  (b8:∀ st W',st.e≠0->RSt W' g T c toks st->Calls prog 89 #[.pointer (some ⟨g,0,none⟩),.string sOr] W' (zen W' g T c toks (ErrQ st))) :
  Calls prog 59 #[.pointer (some ⟨g,0,none⟩),.string sOr] W (zen W g T c toks (OkQ res p)):=by
 have hg:=h.lts.1;have hT:=h.lts.2.1;unfold rowP at O;cases hr:part i with
 | none=>rw [hr] at O;cases O
 | some r=>
 rw [hr] at O;have HO:=zq (fun W' J=>bu i r W' hi hr J);have HM:=zq (fun W' st J=>zcw g T c toks aa W' st sOr J);have ae:=zq (h.alloc (.cells zbe 60));have bJ:=zq (qab W (.cells zbe 60));have bB:=zq ((Fr.refl W (·=g)).alloc (.cells zbe 60));have b3:=zq bu;have bx:=zq b8;have bA:=zq aa;have aQ:=zq O;clear h hr O bu b8 aa;have bU:((sOr:ByteArray).toList==[111,114])=true:=kae;go_enter func59,ntmps59;go_upto_region 6 with (first
  | (go_at_call 89;refine (HO.o _ ae.o).mono ?_;rintro e1 w1 ⟨x,d,cs,L,st,rfl,I,z,hF,hQ⟩;obtain ⟨v3,v4,v5,v6,rfl,-,-,-,-,A3,n3,c3,A4,n4,c4,A5,n5,c5,A6,n6,c6,rfl,rfl,rfl,rfl⟩:=zax I;have ba:=hF.size;rw [qae] at I ba;have HI:=zq (RowR.start hg hT I z (bB.o.trans hF) ba (hF.blk bJ.o kah) 6 x.f7);have HC:=zq (zaf (zaf (qab w1 (.cells #[.int .i64 x.f0,.string x.f1,.string x.f2,.slice A3 n3 c3,.slice A4 n4 c4,.slice A5 n5 c5,.slice A6 n6 c6,.int .i64 x.f7] 60)) (.cells #[.int .i64 x.f0,.string x.f1,.string x.f2,.slice A3 n3 c3,.slice A4 n4 c4,.slice A5 n5 c5,.slice A6 n6 c6,.int .i64 x.f7] 60)) (.cells #[.int .i64 6,.string ⟨#[]⟩,.string ⟨#[]⟩,.slice none 0 0,.slice none 0 0,.slice none 0 0,.slice (some ⟨w1.heap.size+1,0,none⟩) 1 1,.int .i64 x.f7] 60));have aK:=zq I;have HQ:=zq hQ;have au:=zq ba;clear I z hF hQ ba HO)
  | (go_at_call 88;refine (HM.o _ _ HI.o.st).mono ?_;rintro e2 w2 ⟨rfl,z,hF⟩;have a1:=zq (HI.o.move hg z hF);have G:=zq (hF.blk HC.o (by show ¬w1.heap.size=g;have:=au.o;omega));have an:=zq hF;clear z hF))
 cases r with
 | bad e1 q1=>
  obtain ⟨bk,b6,bp⟩:=HQ.o;have he:st.e≠0:=by rw [bk];exact bp
  have O:=qaa aQ.o;subst O;rw [zde toks he] at a1;simp only [zea toks he];have bG:=zq (And.intro bk (And.intro b6 bp));clear bk b6 bp he HQ;obtain ⟨y0,y1,y2,y3,y4,y5,y6,y7,z0,z1,z2,z3,z4,z5,z6,z7⟩:=zaw a1.o.res;have q0:=zab G.o 0;have q1:=zab G.o 1;have q2:=zab G.o 2;have q3:=zab G.o 3;have q4:=zab G.o 4;have q5:=zab G.o 5;have q6:=zab G.o 6;have q7:=zab G.o 7;have bM:w1.heap.size≠W.heap.size:=kca;go_wp2;obtain ⟨R1,R2,R3⟩:=zbn hg hT a1.o.res a1.o.st a1.o.fr (.int .i64 x.f0) (.string x.f1) (.string x.f2) (.slice A3 n3 c3) (.slice A4 n4 c4) (.slice A5 n5 c5) (.slice A6 n6 c6) (.int .i64 x.f7);refine qaf (zbg rfl _ _ W.heap.size 60 #[.int .i64 x.f0,.string x.f1,.string x.f2,.slice A3 n3 c3,.slice A4 n4 c4,.slice A5 n5 c5,.slice A6 n6 c6,.int .i64 x.f7] (0,0) _ rfl R1 underlying60 rfl kae) rfl ?_;have aT:=((((aK.o.alloc _).alloc _).alloc _).fr an.o fun E B e=>by have:=(aK.o.lt E B).1;omega).fr (zbo w2 W.heap.size (.int .i64 x.f0) (.string x.f1) (.string x.f2) (.slice A3 n3 c3) (.slice A4 n4 c4) (.slice A5 n5 c5) (.slice A6 n6 c6) (.int .i64 x.f7)) fun E B e=>by have:=(aK.o.lt E B).1;omega
  exact ⟨x,d,_,L,st,rfl,aT.lower kab,R2,R3,bG.o⟩
 | ok y j=>
  obtain ⟨rfl,rfl,b7,rfl⟩:=HQ.o;have aV:isR toks sOr ⟨j,0,p⟩=isT (tk toks j) sOr:=by simp [isR]
  simp only [aV];by_cases hj:isT (tk toks j) sOr=true
  ·have bN:=bA.o j (by have:=HI.o.st.here;exact this) (zcd hj);have hm:mayR toks sOr ⟨j,0,p⟩=⟨j+1,0,p⟩:=(by unfold mayR;rw [aV,hj];rfl);rw [hm] at a1;simp only [hj];have b4:=zq (show RowL toks part 6 sOr res p K ⟨j+1,0,p⟩ [y.1] (y.2:Int) true from .inl ⟨j,y.2,rfl,b7,hj.symm,HI.o.st.here,rfl,(fun h=>by cases h),by simp,aQ.o⟩);clear aV hj hm HQ aQ bN HC G an aK HI;go_wp2;go_loopg [7,9] K (fun k deep more wr=>∃ ay:RS,∃ l:List S60,∃ v:Value,∃ d:Int,∃ b:Bool,deep = .int .i64 d/\more = .bool b/\Zq (RowR W g T c toks ay (w1.heap.size+1+1) 6 y.1.f7 l v wr)/\Zq (RowL toks part 6 sOr res p k ay l d b)/\Zq (l.head?.map (·.f7)=some y.1.f7));case atStart=>exact ⟨_,[y.1],_,_,_,rfl,rfl,a1,b4,⟨rfl⟩⟩
   case round=>
    obtain ⟨ay,l,v,d,b,rfl,rfl,HX,HL,HH⟩:=hrel;clear a1 b4;obtain ⟨A,cap,L2,rfl,bQ,bb,c6,f6⟩:=HX.o.over;cases b with
    | true=>
     rcases HL.o with ⟨D,dn,rfl,bq,hb,bR,rfl,-,bP,hr⟩|⟨hf,-⟩
     ·simp only [if_true] at HX;have b9:D+1<toks.length:=HX.o.st.here;cases gk with
      | zero=>simp [rowL] at hr
      | succ k=>
      unfold rowL at hr;rw [if_pos hb.symm] at hr;have aY:=HX.o.pos;by_cases aX:l.length=32
      ·rw [if_pos aX] at hr;have aZ:=zq (qaa hr);have bd:(l.length:Int)=32:=kab;have bw:=zq (show (32:Nat)=l.length by omega);have aN:=zq (fun W' J=>zjp W' g T c toks ⟨D+1,0,p⟩ J);have bH:=zq (fun W' J=>zdm W' g T c toks ⟨D+1,0,p⟩ 92 (tk toks (D+1)).place J);have bS:=HX.o.st.many;have hbd:0<=(D:Int)+1/\(D:Int)+1<(toks.length:Int):=kab;clear hr hb bq HL b3;cases aO:zdh (tk toks (D+1)) with
       | true=>
        rw [aO] at aZ;dsimp only at aN;rw [aO] at aN;have bv:zbv toks (zcc 92 (tk toks (D+1)).place ⟨D+1,0,p⟩)=⟨D+1,92,(tk toks (D+1)).place⟩:=(by simp [zbv,zcc]);have a8:(⟨D+1,92,(tk toks (D+1)).place⟩:RS).e≠0:=(by show (92:Int)≠0;decide);have bc:=zq (fun W' J=>zdo W' g T c toks (zcc 92 (tk toks (D+1)).place ⟨D+1,0,p⟩) J);clear aO;go_wp2_with (go_at_call 90;refine (aN.o _ HX.o.st).mono ?_;rintro e8 w8 ⟨rfl,hB⟩;have HX:=zq (HX.o.move hg (HX.o.st.below hB) (Fr.of_below hB));obtain ⟨u0,u1,u2,e0,e1,e2,e3,e4,e5⟩:=HX.o.st.look;clear hB);go_region_law (go_simp;go_at_call 33;refine (bH.o _ (by first|exact HX.o.st|exact HX.o.st.drew)).mono ?_;rintro e9 w9 ⟨rfl,z,hF⟩;have HX:=zq (HX.o.move hg z (by first|exact hF|exact hF.undrew));clear z hF);go_wp2_with (first
        | (go_at_call 56;refine (bc.o _ HX.o.st).mono ?_;rintro bL bO ⟨rfl,z,hF⟩;rw [bv] at z;have HX:=zq (HX.o.move hg z hF);clear z hF)
        | (go_at_call 89;refine (bx.o _ _ a8 HX.o.st).mono ?_;rintro e2 w2 ⟨w,d2,cs,M,aP,rfl,I,z,hF,hQ⟩;obtain ⟨v3,v4,v5,v6,rfl,-,-,-,-,B3,m3,k3,U,m4,k4,X,m5,k5,Y,m6,k6,rfl,rfl,rfl,rfl⟩:=zax I;have ab:=zq (HX.o.move hg z hF);have ka:=fun o=>zab (zaf ab.o.cnd o) 6;simp only [qaj,qaw,qag] at ka;obtain ⟨cells,L,af,a6,aH,aI⟩:=HX.o.row;have aE:=zq ((af.fr hF fun E B e=>by have:=(af.blk B).1;omega).alloc (.cells #[.int .i64 w.f0,.string w.f1,.string w.f2,.slice B3 m3 k3,.slice U m4 k4,.slice X m5 k5,.slice Y m6 k6,.int .i64 w.f7] 60));have aG:=zq (And.intro (zam HX.o.res) hF.size);have aR:=zq I;have hQ:aP=_:=hQ;subst hQ;have bz:=zq hF;have aD:=zq (a6.fr hF fun E B e=>by have:=(a6.lt E B).1;omega);have av:=zq (And.intro aH aI);have aC:=zq (And.intro (zam HX.o.cnd) (fun b hb=>(af.blk hb).2.1:∀ b,(Value.slice A l.length cap).ownBlock=some b->b<_));clear I z hF af a6 aH aI)
        | ((with_reducible refine zas (b := .append) (xs:=#[.tmp 64,.tmp 66]) rfl ?_);at_builtin;refine zaz (qae ..) (W.heap.size+1) rfl (.tmp 64) (.tmp 66) 58 60 (.agg #[.int .i64 0,.string ⟨#[]⟩,.string ⟨#[]⟩,.slice none 0 0,.slice none 0 0,.slice none 0 0,.slice none 0 0,.int .i64 0]) 8 144 rfl rfl rfl rfl kad (.slice A l.length cap) l.length cells [.int .i64 w.f0,.string w.f1,.string w.f2,.slice B3 m3 k3,.slice U m4 k4,.slice X m5 k5,.slice Y m6 k6,.int .i64 w.f7] (congrArg (fun n:Nat=>Value.slice A n cap) bw.o) rfl rfl ?aU aE.o ?aB ?aM ?aL ?_;(case aU=>intro u hu;simp at hu;rcases hu with rfl|rfl|rfl|rfl|rfl|rfl|rfl|rfl<;>rfl);(case aB=>have:=aG.o;rw [qae];omega);(case aM=>simp only [maxLen];omega);(case aL=>omega);intro v1 w3 ad Z a7 aW;have aJ:(Value.slice A l.length cap).ownBlock≠some (w1.heap.size+1+1):=kbq;have aA:=(Z.block _ (Nat.lt_trans (zam ab.o.cnd) kax) (fun e=>aJ e.symm)).trans (zaf ab.o.cnd (.cells #[.int .i64 w.f0,.string w.f1,.string w.f2,.slice B3 m3 k3,.slice U m4 k4,.slice X m5 k5,.slice Y m6 k6,.int .i64 w.f7] 60));have g6:=zac aA 6;have h6:=zab aA 6;simp only [qaj,qaw,qag] at h6;have b5:=zq ad;have b1:=zq Z;have b2:=zq a7;have aF:=zq (RowR.snoc (ab.o.move hg (ab.o.st.alloc (.cells #[.int .i64 w.f0,.string w.f1,.string w.f2,.slice B3 m3 k3,.slice U m4 k4,.slice X m5 k5,.slice Y m6 k6,.int .i64 w.f7] 60)) ((Fr.refl w2 (·=g)).alloc _)) hg hT kab aE.o (aD.o.frame fun k hk=>qbm w2 _ k (aD.o.lt k hk).2) av.o.1 av.o.2 (by have:=aG.o.1;omega) aC.o.1 aC.o.2 (aR.o.alloc _) ad Z a7);obtain ⟨A9,c9,rfl,-,-⟩:=ad.form;clear ad Z a7 aW aA aJ;(try clear bd);(try clear aX))
        | (go_at_call 88;refine (HM.o _ _ aF.o.st).mono ?_;rintro e4 w4 ⟨rfl,z,hF⟩;have aS:=zq (aF.o.move hg z hF);clear z hF))
        all_goals (go_roundg k;(case measure=>omega);(case rel=>exact ⟨_,l++[w],_,_,_,rfl,rfl,aS,⟨.inr ⟨zea toks a8,by rw [zde toks a8];exact a8,by rw [zde toks a8];simpa using aZ.o.symm⟩⟩,⟨by have:=HH.o;cases l with|nil=>simp at aY|cons q r=>exact this⟩⟩))
       | false=>
        rw [aO] at aZ;dsimp only at aN;rw [aO] at aN;have bv:zbv toks ⟨D+1,0,p⟩=⟨D+1,90,(tk toks (D+1)).place⟩:=(by simp [zbv,zcc]);have a8:(⟨D+1,90,(tk toks (D+1)).place⟩:RS).e≠0:=(by show (90:Int)≠0;decide);have bc:=zq (fun W' J=>zdo W' g T c toks ⟨D+1,0,p⟩ J);clear aO;go_wp2_with (first
        | (go_at_call 90;refine (aN.o _ HX.o.st).mono ?_;rintro e8 w8 ⟨rfl,hB⟩;have HX:=zq (HX.o.move hg (HX.o.st.below hB) (Fr.of_below hB));obtain ⟨u0,u1,u2,e0,e1,e2,e3,e4,e5⟩:=HX.o.st.look;clear hB)
        | (go_at_call 56;refine (bc.o _ HX.o.st).mono ?_;rintro bL bO ⟨rfl,z,hF⟩;rw [bv] at z;have HX:=zq (HX.o.move hg z hF);clear z hF)
        | (go_at_call 89;refine (bx.o _ _ a8 HX.o.st).mono ?_;rintro e2 w2 ⟨w,d2,cs,M,aP,rfl,I,z,hF,hQ⟩;obtain ⟨v3,v4,v5,v6,rfl,-,-,-,-,B3,m3,k3,U,m4,k4,X,m5,k5,Y,m6,k6,rfl,rfl,rfl,rfl⟩:=zax I;have ab:=zq (HX.o.move hg z hF);have ka:=fun o=>zab (zaf ab.o.cnd o) 6;simp only [qaj,qaw,qag] at ka;obtain ⟨cells,L,af,a6,aH,aI⟩:=HX.o.row;have aE:=zq ((af.fr hF fun E B e=>by have:=(af.blk B).1;omega).alloc (.cells #[.int .i64 w.f0,.string w.f1,.string w.f2,.slice B3 m3 k3,.slice U m4 k4,.slice X m5 k5,.slice Y m6 k6,.int .i64 w.f7] 60));have aG:=zq (And.intro (zam HX.o.res) hF.size);have aR:=zq I;have hQ:aP=_:=hQ;subst hQ;have bz:=zq hF;have aD:=zq (a6.fr hF fun E B e=>by have:=(a6.lt E B).1;omega);have av:=zq (And.intro aH aI);have aC:=zq (And.intro (zam HX.o.cnd) (fun b hb=>(af.blk hb).2.1:∀ b,(Value.slice A l.length cap).ownBlock=some b->b<_));clear I z hF af a6 aH aI)
        | ((with_reducible refine zas (b := .append) (xs:=#[.tmp 64,.tmp 66]) rfl ?_);at_builtin;refine zaz (qae ..) (W.heap.size+1) rfl (.tmp 64) (.tmp 66) 58 60 (.agg #[.int .i64 0,.string ⟨#[]⟩,.string ⟨#[]⟩,.slice none 0 0,.slice none 0 0,.slice none 0 0,.slice none 0 0,.int .i64 0]) 8 144 rfl rfl rfl rfl kad (.slice A l.length cap) l.length cells [.int .i64 w.f0,.string w.f1,.string w.f2,.slice B3 m3 k3,.slice U m4 k4,.slice X m5 k5,.slice Y m6 k6,.int .i64 w.f7] (congrArg (fun n:Nat=>Value.slice A n cap) bw.o) rfl rfl ?aU aE.o ?aB ?aM ?aL ?_;(case aU=>intro u hu;simp at hu;rcases hu with rfl|rfl|rfl|rfl|rfl|rfl|rfl|rfl<;>rfl);(case aB=>have:=aG.o;rw [qae];omega);(case aM=>simp only [maxLen];omega);(case aL=>omega);intro v1 w3 ad Z a7 aW;have aJ:(Value.slice A l.length cap).ownBlock≠some (w1.heap.size+1+1):=kbq;have aA:=(Z.block _ (Nat.lt_trans (zam ab.o.cnd) kax) (fun e=>aJ e.symm)).trans (zaf ab.o.cnd (.cells #[.int .i64 w.f0,.string w.f1,.string w.f2,.slice B3 m3 k3,.slice U m4 k4,.slice X m5 k5,.slice Y m6 k6,.int .i64 w.f7] 60));have g6:=zac aA 6;have h6:=zab aA 6;simp only [qaj,qaw,qag] at h6;have b5:=zq ad;have b1:=zq Z;have b2:=zq a7;have aF:=zq (RowR.snoc (ab.o.move hg (ab.o.st.alloc (.cells #[.int .i64 w.f0,.string w.f1,.string w.f2,.slice B3 m3 k3,.slice U m4 k4,.slice X m5 k5,.slice Y m6 k6,.int .i64 w.f7] 60)) ((Fr.refl w2 (·=g)).alloc _)) hg hT kab aE.o (aD.o.frame fun k hk=>qbm w2 _ k (aD.o.lt k hk).2) av.o.1 av.o.2 (by have:=aG.o.1;omega) aC.o.1 aC.o.2 (aR.o.alloc _) ad Z a7);obtain ⟨A9,c9,rfl,-,-⟩:=ad.form;clear ad Z a7 aW aA aJ;(try clear bd);(try clear aX))
        | (go_at_call 88;refine (HM.o _ _ aF.o.st).mono ?_;rintro e4 w4 ⟨rfl,z,hF⟩;have aS:=zq (aF.o.move hg z hF);clear z hF))
        go_roundg k
        case measure=>omega
        case rel=>exact ⟨_,l++[w],_,_,_,rfl,rfl,aS,⟨.inr ⟨zea toks a8,by rw [zde toks a8];exact a8,by rw [zde toks a8];simpa using aZ.o.symm⟩⟩,⟨by have:=HH.o;cases l with|nil=>simp at aY|cons q r=>exact this⟩⟩
      rw [if_neg aX] at hr;have bd:¬(l.length:Int)=32:=kab;cases hp:part (D+1) with
      | none=>rw [hp] at hr;cases hr
      | some r=>
      rw [hp] at hr;have bF:=zq (fun W' J=>b3.o (D+1) r W' b9 hp J);have HR:=zq hr;have bD:=zq bq;clear hr hp hb bq HL b9;go_wp2_with (first
       | (go_at_call 89;refine (bF.o _ HX.o.st).mono ?_;rintro e2 w2 ⟨w,d2,cs,M,aP,rfl,I,z,hF,hQ⟩;obtain ⟨v3,v4,v5,v6,rfl,-,-,-,-,B3,m3,k3,U,m4,k4,X,m5,k5,Y,m6,k6,rfl,rfl,rfl,rfl⟩:=zax I;have ab:=zq (HX.o.move hg z hF);have ka:=fun o=>zab (zaf ab.o.cnd o) 6;simp only [qaj,qaw,qag] at ka;obtain ⟨cells,L,af,a6,aH,aI⟩:=HX.o.row;have aE:=zq ((af.fr hF fun E B e=>by have:=(af.blk B).1;omega).alloc (.cells #[.int .i64 w.f0,.string w.f1,.string w.f2,.slice B3 m3 k3,.slice U m4 k4,.slice X m5 k5,.slice Y m6 k6,.int .i64 w.f7] 60));have aG:=zq (And.intro (zam HX.o.res) hF.size);have aR:=zq I;have HQ:=zq hQ;have bz:=zq hF;have aD:=zq (a6.fr hF fun E B e=>by have:=(a6.lt E B).1;omega);have av:=zq (And.intro aH aI);have aC:=zq (And.intro (zam HX.o.cnd) (fun b hb=>(af.blk hb).2.1:∀ b,(Value.slice A l.length cap).ownBlock=some b->b<_));clear I z hF hQ af a6 aH aI)
       | ((with_reducible refine zas (b := .append) (xs:=#[.tmp 64,.tmp 66]) rfl ?_);at_builtin;refine zaz (qae ..) (W.heap.size+1) rfl (.tmp 64) (.tmp 66) 58 60 (.agg #[.int .i64 0,.string ⟨#[]⟩,.string ⟨#[]⟩,.slice none 0 0,.slice none 0 0,.slice none 0 0,.slice none 0 0,.int .i64 0]) 8 144 rfl rfl rfl rfl kad (.slice A l.length cap) l.length cells [.int .i64 w.f0,.string w.f1,.string w.f2,.slice B3 m3 k3,.slice U m4 k4,.slice X m5 k5,.slice Y m6 k6,.int .i64 w.f7] rfl rfl rfl ?aU aE.o ?aB ?aM ?aL ?_;(case aU=>intro u hu;simp at hu;rcases hu with rfl|rfl|rfl|rfl|rfl|rfl|rfl|rfl<;>rfl);(case aB=>have:=aG.o;rw [qae];omega);(case aM=>simp only [maxLen];omega);(case aL=>omega);intro v1 w3 ad Z a7 aW;have aJ:(Value.slice A l.length cap).ownBlock≠some (w1.heap.size+1+1):=kbq;have aA:=(Z.block _ (Nat.lt_trans (zam ab.o.cnd) kax) (fun e=>aJ e.symm)).trans (zaf ab.o.cnd (.cells #[.int .i64 w.f0,.string w.f1,.string w.f2,.slice B3 m3 k3,.slice U m4 k4,.slice X m5 k5,.slice Y m6 k6,.int .i64 w.f7] 60));have g6:=zac aA 6;have h6:=zab aA 6;simp only [qaj,qaw,qag] at h6;have b5:=zq ad;have b1:=zq Z;have b2:=zq a7;have aF:=zq (RowR.snoc (ab.o.move hg (ab.o.st.alloc (.cells #[.int .i64 w.f0,.string w.f1,.string w.f2,.slice B3 m3 k3,.slice U m4 k4,.slice X m5 k5,.slice Y m6 k6,.int .i64 w.f7] 60)) ((Fr.refl w2 (·=g)).alloc _)) hg hT kab aE.o (aD.o.frame fun k hk=>qbm w2 _ k (aD.o.lt k hk).2) av.o.1 av.o.2 (by have:=aG.o.1;omega) aC.o.1 aC.o.2 (aR.o.alloc _) ad Z a7);obtain ⟨A9,c9,rfl,-,-⟩:=ad.form;clear ad Z a7 aW aA aJ)
       | (go_at_call 88;refine (HM.o _ _ aF.o.st).mono ?_;rintro e4 w4 ⟨rfl,z,hF⟩;have aS:=zq (aF.o.move hg z hF);clear z hF))
      go_roundg k
      case measure=>omega
      case rel=>exact ⟨_,l++[w],_,_,_,rfl,rfl,aS,⟨zrm HQ.o ab.o.st.here bD.o aY kab HR.o⟩,⟨by have:=HH.o;cases l with|nil=>simp at aY|cons q r=>exact this⟩⟩
     cases hf
    | false=>
     obtain ⟨c0,c1,c2,c3,c4,c5,-,c7⟩:=zeb HX.o.cnd;have bE:=zq (fun W' aP dd J=>ziq W' g T c toks aP dd 6 ⟨#[]⟩ ⟨#[]⟩ .nilIface .nilIface .nilIface .nilIface y.1.f7 none none none A 0 0 0 0 0 0 l.length cap J);have bT:w1.heap.size+1+1≠W.heap.size:=(by have:=HX.o.lt;omega);go_wp2_with (go_at_call 91;refine (bE.o _ _ _ HX.o.st).mono ?_;rintro e3 w3 ⟨rfl,z,hF⟩;have bI:=zq z;have b0:=zq hF;have hZ:=hF.blk HX.o.res kah;obtain ⟨y0,y1,y2,y3,y4,y5,y6,y7,z0,z1,z2,z3,z4,z5,z6,z7⟩:=zaw hZ;have bK:=zq hZ;clear z hF hZ);obtain ⟨R1,R2,R3⟩:=zbn hg hT bK.o bI.o (HX.o.fr.trans b0.o) (.int .i64 6) (.string ⟨#[]⟩) (.string ⟨#[]⟩) (.slice none 0 0) (.slice none 0 0) (.slice none 0 0) (.slice A l.length cap) (.int .i64 y.1.f7);refine qaf (zbg rfl _ _ W.heap.size 60 #[.int .i64 6,.string ⟨#[]⟩,.string ⟨#[]⟩,.slice none 0 0,.slice none 0 0,.slice none 0 0,.slice A l.length cap,.int .i64 y.1.f7] (0,0) _ rfl R1 underlying60 rfl kae) rfl ?_;have aT:=(bb.o.fr b0.o fun E B e=>by have:=(bb.o.lt E B).1;omega).fr (zbo w3 W.heap.size (.int .i64 6) (.string ⟨#[]⟩) (.string ⟨#[]⟩) (.slice none 0 0) (.slice none 0 0) (.slice none 0 0) (.slice A l.length cap) (.int .i64 y.1.f7)) fun E B e=>(by have:=(bb.o.lt E B).1;omega);exact ⟨_,_,_,_,_,rfl,aT.lower kab,R2,R3,zrn HL.o HH.o⟩
  have br:isT (tk toks j) sOr=false:=by simpa using hj
  have O:=aQ.o;obtain ⟨K,rfl⟩:∃ K',K=K'+1:=⟨K-1,kab⟩;dsimp only at O;unfold rowL at O;rw [if_neg hj] at O;have O:=qaa O;subst O;have hm:mayR toks sOr ⟨j,0,p⟩=⟨j,0,p⟩:=by unfold mayR;rw [aV,br];rfl
  rw [hm] at a1;simp only [br];clear aV hj br hm HQ aQ;obtain ⟨y0,y1,y2,y3,y4,y5,y6,y7,z0,z1,z2,z3,z4,z5,z6,z7⟩:=zaw a1.o.res;have q0:=zab G.o 0;have q1:=zab G.o 1;have q2:=zab G.o 2;have q3:=zab G.o 3;have q4:=zab G.o 4;have q5:=zab G.o 5;have q6:=zab G.o 6;have q7:=zab G.o 7;have bM:w1.heap.size≠W.heap.size:=kca;go_wp2;obtain ⟨R1,R2,R3⟩:=zbn hg hT a1.o.res a1.o.st a1.o.fr (.int .i64 y.1.f0) (.string y.1.f1) (.string y.1.f2) (.slice A3 n3 c3) (.slice A4 n4 c4) (.slice A5 n5 c5) (.slice A6 n6 c6) (.int .i64 y.1.f7);refine qaf (zbg rfl _ _ W.heap.size 60 #[.int .i64 y.1.f0,.string y.1.f1,.string y.1.f2,.slice A3 n3 c3,.slice A4 n4 c4,.slice A5 n5 c5,.slice A6 n6 c6,.int .i64 y.1.f7] (0,0) _ rfl R1 underlying60 rfl kae) rfl ?_;have aT:=((((aK.o.alloc _).alloc _).alloc _).fr an.o fun E B e=>by have:=(aK.o.lt E B).1;omega).fr (zbo w2 W.heap.size (.int .i64 y.1.f0) (.string y.1.f1) (.string y.1.f2) (.slice A3 n3 c3) (.slice A4 n4 c4) (.slice A5 n5 c5) (.slice A6 n6 c6) (.int .i64 y.1.f7)) fun E B e=>by have:=(aK.o.lt E B).1;omega
  exact ⟨y.1,(y.2:Int),_,L,_,rfl,aT.lower kab,R2,R3,rfl,rfl,b7,rfl⟩
end
end
section
section
variable (g T c:Nat) (toks:List Tok)
theorem zpk (W:World) (st:RS) (Q:S60->Int->RS->Prop) (h:RSt W g T c toks st)
  (z:∀ W',RSt W' g T c toks st->Calls prog 59 #[.pointer (some ⟨g,0,none⟩),.string sAnd] W' (zen W' g T c toks Q)) :
  Calls prog 89 #[.pointer (some ⟨g,0,none⟩),.string sOr] W (zen W g T c toks Q):=by
 have hg:=h.lts.1;have X:=h.lts.2.1;have r:=zq z;have ae:=zq (h.alloc (.cells zbe 60));have I:=zq (qab W (.cells zbe 60));have A:=zq ((Fr.refl W (·=g)).alloc (.cells zbe 60));clear h z;have af:((sOr:ByteArray).toList==[111,114])=true:=kae;go_enter func89,ntmps89;go_wp2_with (go_at_call 59;refine (r.o _ ae.o).mono ?_;rintro e1 w1 ⟨x,d,cs,L,ad,rfl,b,y,hF,w⟩;obtain ⟨v3,v4,v5,v6,rfl,-,-,-,-,i,n3,c3,j,n4,c4,A5,q,c5,A6,n6,c6,rfl,rfl,rfl,rfl⟩:=zax b;have p:=hF.size;rw [qae] at b p;have n:=hF.blk I.o kah;have E:=zq n;obtain ⟨y0,y1,y2,y3,y4,y5,y6,y7,z0,z1,z2,z3,z4,z5,z6,z7⟩:=zaw n;have B:=zq (A.o.trans hF);have u:=zq b;have D:=zq w;have G:=zq y;have au:=zq p;clear b y hF w p n r);obtain ⟨J,M,O⟩:=zbn hg X E.o G.o B.o (.int .i64 x.f0) (.string x.f1) (.string x.f2) (.slice i n3 c3) (.slice j n4 c4) (.slice A5 q c5) (.slice A6 n6 c6) (.int .i64 x.f7);refine qaf (zbg rfl _ _ W.heap.size 60 #[.int .i64 x.f0,.string x.f1,.string x.f2,.slice i n3 c3,.slice j n4 c4,.slice A5 q c5,.slice A6 n6 c6,.int .i64 x.f7] (0,0) _ rfl J underlying60 rfl kae) rfl ?_;have Y:=u.o.fr (zbo w1 W.heap.size (.int .i64 x.f0) (.string x.f1) (.string x.f2) (.slice i n3 c3) (.slice j n4 c4) (.slice A5 q c5) (.slice A6 n6 c6) (.int .i64 x.f7)) fun U Z e=>by have:=(u.o.lt U Z).1;omega
 exact ⟨x,d,_,L,ad,rfl,Y.lower kab,M,O,D.o⟩
theorem zpl (W:World) (st:RS) (Q:S60->Int->RS->Prop) (h:RSt W g T c toks st)
  (z:∀ W',RSt W' g T c toks st->Calls prog 120 #[.pointer (some ⟨g,0,none⟩)] W' (zen W' g T c toks Q)) :
  Calls prog 89 #[.pointer (some ⟨g,0,none⟩),.string sAnd] W (zen W g T c toks Q):=by
 have hg:=h.lts.1;have X:=h.lts.2.1;have r:=zq z;have ae:=zq (h.alloc (.cells zbe 60));have I:=zq (qab W (.cells zbe 60));have A:=zq ((Fr.refl W (·=g)).alloc (.cells zbe 60));clear h z;have af:((sAnd:ByteArray).toList==[111,114])=false:=kae;go_enter func89,ntmps89;go_wp2_with (go_at_call 120;refine (r.o _ ae.o).mono ?_;rintro e1 w1 ⟨x,d,cs,L,ad,rfl,b,y,hF,w⟩;obtain ⟨v3,v4,v5,v6,rfl,-,-,-,-,i,n3,c3,j,n4,c4,A5,q,c5,A6,n6,c6,rfl,rfl,rfl,rfl⟩:=zax b;have p:=hF.size;rw [qae] at b p;have n:=hF.blk I.o kah;have E:=zq n;obtain ⟨y0,y1,y2,y3,y4,y5,y6,y7,z0,z1,z2,z3,z4,z5,z6,z7⟩:=zaw n;have B:=zq (A.o.trans hF);have u:=zq b;have D:=zq w;have G:=zq y;have au:=zq p;clear b y hF w p n r);obtain ⟨J,M,O⟩:=zbn hg X E.o G.o B.o (.int .i64 x.f0) (.string x.f1) (.string x.f2) (.slice i n3 c3) (.slice j n4 c4) (.slice A5 q c5) (.slice A6 n6 c6) (.int .i64 x.f7);refine qaf (zbg rfl _ _ W.heap.size 60 #[.int .i64 x.f0,.string x.f1,.string x.f2,.slice i n3 c3,.slice j n4 c4,.slice A5 q c5,.slice A6 n6 c6,.int .i64 x.f7] (0,0) _ rfl J underlying60 rfl kae) rfl ?_;have Y:=u.o.fr (zbo w1 W.heap.size (.int .i64 x.f0) (.string x.f1) (.string x.f2) (.slice i n3 c3) (.slice j n4 c4) (.slice A5 q c5) (.slice A6 n6 c6) (.int .i64 x.f7)) fun U Z e=>by have:=(u.o.lt U Z).1;omega
 exact ⟨x,d,_,L,ad,rfl,Y.lower kab,M,O,D.o⟩
end
end
end Go.Proofs.YtjeekocidaogoaaGreatDoor.H
