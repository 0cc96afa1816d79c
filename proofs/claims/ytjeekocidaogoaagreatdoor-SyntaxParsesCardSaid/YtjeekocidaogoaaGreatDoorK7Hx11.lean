import Derived.Test.YtjeekocidaogoaaGreatDoorK7Atoms
import Derived.Test.YtjeekocidaogoaaGreatDoorK7Addr
import Derived.Test.YtjeekocidaogoaaGreatDoorK7PrN
import Derived.Test.YtjeekocidaogoaaGreatDoorK7Hx9
import Derived.Test.YtjeekocidaogoaaGreatDoorRows
import Derived.Test.YtjeekocidaogoaaGreatDoorK7Shelf
import Derived.ProofKit
import Derived.SizedLaws
import Derived.HandedShaped
import Derived.LaidMore
import Derived.Lay
import Derived.Lib.LaidTab
import Derived.Lib.LaidU8
import Derived.Stop.LaidErr
import Derived.Lib.AtoiAll
import Derived.Lib.ItoaMem
import Derived.Lib.IndexMore
import Derived.Lib.IndexAny
import Derived.Lib.IndexBytes
import Derived.Lib.Split
import Derived.Lib.SplitLaws
import Derived.Lib.CountLaws
set_option linter.unusedVariables false
set_option linter.unusedSimpArgs false
set_option maxRecDepth 100000
set_option maxHeartbeats 8000000
open Go.Proofs.Tryz
namespace Go.Proofs.YtjeekocidaogoaaGreatDoor.H
open Go.RowKit Go.Proofs.YtjeekocidaogoaaGreatDoor.Hand Go.Proofs.YtjeekocidaogoaaGreatDoorW.PrintWords Go.Proofs.YtjeekocidaogoaaGreatDoorW.PrintLast Go.Proofs.YtjeekocidaogoaaGreatDoorW.PrintMore
section
attribute [local go_sem] zdv zdt zel zek zcz zcy zdu zds
mutual
def lychgateref03_ParsePrefix.j0:Nat->Int->Int->Int->Bool->Option (Int×Int×Int)
 | 0,_,_,_,_=>none
 | k+1,x7,x8,x9,x10=>if x8=0 then (lychgateref03_ParsePrefix.j1 k (!x10) x7 x9) else (lychgateref03_ParsePrefix.j1 k true x7 x9)
def lychgateref03_ParsePrefix.j1:Nat->Bool->Int->Int->Option (Int×Int×Int)
 | 0,_,_,_=>none
 | k+1,x38,x306000,x306001=>if x38=true then (some (0,0,30)) else ((lychgateref03_Right.f x306000 x306001).bind fun t306=>(if t306=true then (some (x306000,x306001,0)) else (some (0,0,30))))
end
def lychgateref03_ParsePrefix.f (k:Nat) (a0:ByteArray):Option (Int×Int×Int):=(lychgateref03_cut.f k a0 47).bind fun c=>((lychgateref03_Parse.f k c.1).bind fun b=>(if c.2.2=true then ((lychgateref03_number.f k c.2.1 32).bind fun d=>(lychgateref03_ParsePrefix.j0 k b.1 b.2 d.1 d.2)) else (lychgateref03_ParsePrefix.j0 k b.1 b.2 32 true)))
theorem lychgateref03_ParsePrefix.calls (k:Nat) (a0:ByteArray) (r1:Int) (r2:Int) (r3:Int) (w:World) (h:lychgateref03_ParsePrefix.f k a0=some (r1,r2,r3)) :
  Calls prog 119 #[.string a0] w fun e w'=>e = .returned (.tuple #[.agg #[.int .i64 r1,.int .i64 r2],.int .i64 r3])/\Below w.heap.size w w':=by
 have b2:=underlying47;have HB:=zq (qan w.heap.size w);have H:((lychgateref03_cut.f k a0 47).bind fun L=>((lychgateref03_Parse.f k L.1).bind fun z=>(if L.2.2=true then ((lychgateref03_number.f k L.2.1 32).bind fun ad=>(lychgateref03_ParsePrefix.j0 k z.1 z.2 ad.1 ad.2)) else (lychgateref03_ParsePrefix.j0 k z.1 z.2 32 true))))=some (r1,r2,r3):=h;clear h;obtain ⟨⟨M,O,a1⟩,A2,H⟩:=kbd H;try dsimp only at H
 obtain ⟨⟨d,n⟩,A3,H⟩:=kbd H;try dsimp only at H
 have I:=zq H;clear H;go_enter func119,ntmps119
 go_upto_if 24 with (first|((with_reducible refine zcf (N:=2) rfl ?_);refine zcb ?hg (N:=2) ?hd (cs:=#[.int .i64 0,.int .i64 0]) (t:=47) ?hr ?_;(case hd=>rfl);(case hg=>rfl);(case hr=>first|(go_simp;done)|(go_simp;rfl));intro c hg w5 x i;have ao:=zq x;have ax:=zq (kge hg (zat kaa):w.heap.size<=c);replace HB:=zq (zau kaa i);clear i x hg)|((with_reducible refine zar (f:=145) rfl ?_);refine zbs (some 15) rfl rfl func145 kae rfl #[.string a0,.int .u8 47] rfl kac ?_;(with_reducible refine (lychgateref03_cut.calls k a0 47 M O a1 _ A2.o).mono ?_);rintro e w' ⟨rfl,⟨nd,rfl⟩⟩;refine ⟨_,rfl,?_⟩)|((with_reducible refine zar (f:=146) rfl ?_);refine zbs (some 21) rfl rfl func146 kae rfl #[.string M] rfl kac ?_;(with_reducible refine (lychgateref03_Parse.calls k M d n _ A3.o).mono ?_);rintro e w' ⟨rfl,⟨nd,rfl⟩⟩;refine ⟨_,rfl,?_⟩))
 (try simp only [Act.put,List.setIfInBounds_toArray,List.set_cons_zero,List.set_cons_succ])
 go_cut [9,10] (fun v9 aF wc=>∃ (m:Nat) (j:Int) (E:Bool),v9 = .int .i64 j/\aF = .bool E/\Zq (lychgateref03_ParsePrefix.j0 m d n j E=some (r1,r2,r3))/\Zq (m<=k)/\Zq (wc.heap[c]?=some (.cells #[.int .i64 0,.int .i64 0] 47 (0,0)))/\Zq (Below w.heap.size w wc))
 case first=>
  have H:=I.o;clear I;by_cases c6:a1=true
  ·subst c6;rw [if_pos rfl] at H;replace H:=qba.mp H;obtain ⟨⟨U,W⟩,Y,H⟩:=H;replace H:(lychgateref03_ParsePrefix.j0 k d n U W)=some (r1,r2,r3):=H;have A7:=zq Y;clear Y;have q:=zq H;clear H;go_wp2_with (first|((with_reducible refine zar (f:=147) rfl ?_);refine zbs (some 27) rfl rfl func147 kae rfl #[.string O,.int .i64 32] rfl kac ?_;(with_reducible refine (lychgateref03_number.calls k O 32 U W _ A7.o).mono ?_);rintro e w' ⟨rfl,⟨nd,rfl⟩⟩;refine ⟨_,rfl,?_⟩))
   go_meet
   case rel=>exact ⟨_,(U),(W),kaf,kaf,q,⟨by first|omega|exact qad _⟩,⟨kba⟩,⟨kbo⟩⟩
  replace c6:=qbf.mpr c6;subst c6;rw [if_neg (show ¬(false=true) by decide)] at H;have q:=zq H;clear H;go_wp2
  go_meet
  case rel=>exact ⟨_,(32),(true),kaf,kaf,q,⟨by first|omega|exact qad _⟩,⟨kba⟩,⟨kbo⟩⟩
 case rest=>
  clear I;try clear c1
  try clear p2
  try clear c6
  obtain ⟨m,j,E,rfl,rfl,r,Z,ao,HB⟩:=hcut;cases m with
  | zero=>exact absurd r.o (by simp [lychgateref03_ParsePrefix.j0])
  | succ aD=>
   have H:=r.o;clear r;simp only [lychgateref03_ParsePrefix.j0] at H;have J:=zq H;clear H;go_upto_region 8 with (first|((with_reducible refine zcf (N:=11) rfl ?_);refine zcb ?hg (N:=11) ?hd (cs:=#[.int .i64 0,.int .i64 0]) (t:=47) ?hr ?_;(case hd=>rfl);(case hg=>rfl);(case hr=>first|(go_simp;done)|(go_simp;rfl));intro l hg w9 x i;have b:=zq x;have p:=zq (kge hg (zat kbo):w.heap.size<=l);have s:=zq ((by rw [hg];exact Nat.ne_of_lt (zam (g:=c) (o := .cells #[.int .i64 0,.int .i64 0] 47 (0,0)) kba):c≠l));have y:=zq ((by rw [hg];exact Nat.ne_of_gt (zam (g:=c) (o := .cells #[.int .i64 0,.int .i64 0] 47 (0,0)) kba):l≠c));replace ao:=zq (zaq (g:=c) (o := .cells #[.int .i64 0,.int .i64 0] 47 (0,0)) kba i);replace HB:=zq (zau kbo i);clear i x hg;have br:=y.o;have bx:=s.o;have a8:w9.cell? ⟨l,0,none⟩=some (.int .i64 0):=(zab b.o 0).trans rfl;have aA:w9.cell? ⟨l,1,none⟩=some (.int .i64 0):=(zab b.o 1).trans rfl;have aB:=zac b.o 0;have aC:=zac b.o 1));(try simp only [Act.put,List.setIfInBounds_toArray,List.set_cons_zero,List.set_cons_succ])
   go_cut [38] (fun aG wc=>∃ (m:Nat) (G:Bool),aG = .bool G/\Zq (lychgateref03_ParsePrefix.j1 m G d j=some (r1,r2,r3))/\Zq (m<=aD)/\Zq (wc.heap[c]?=some (.cells #[.int .i64 0,.int .i64 0] 47 (0,0)))/\Zq (wc.heap[l]?=some (.cells #[.int .i64 d,.int .i64 j] 47 (0,0)))/\Zq (Below w.heap.size w wc))
   case first=>
    have H:=J.o;clear J;by_cases c12:n=0
    ·rw [if_pos c12] at H;have u:(n==0)=true:=qar.mpr c12;have af:(n !=0)=false:=qaq.mpr c12;clear c12
     (first|rw [u]|(simp only [zjm,zpt];rw [u])|skip)
     have q:=zq H;clear H;go_wp2
     go_meet
     case rel=>exact ⟨_,(!E),kaf,q,⟨by have:=Z.o;first|omega|exact qad _⟩,⟨by (repeat (first|(with_reducible refine zah ?_ _)|(with_reducible refine zak ?_)|(with_reducible refine zaf ?_ _)|refine zav ?_ s.o _));(with_reducible repeat (first|refine zah ?_ _|refine zak ?_|refine zaf ?_ _));exact ao.o⟩,⟨by (with_reducible repeat (first|refine zah ?_ _|refine zak ?_|refine zaf ?_ _));refine zan (cs:=#[.int .i64 d,.int .i64 0]) ?_ 1 _ rfl;(with_reducible repeat (first|refine zah ?_ _|refine zak ?_|refine zaf ?_ _));refine zan (cs:=#[.int .i64 0,.int .i64 0]) ?_ 0 _ rfl;(with_reducible repeat (first|refine zah ?_ _|refine zak ?_|refine zaf ?_ _));exact b.o⟩,⟨by repeat (first|(with_reducible first|exact HB.o|apply zad|apply zaa|apply zae|refine zaj ?_ ax.o|refine zaj ?_ p.o)|exact HB.o)⟩⟩
    rw [if_neg c12] at H;have u:(n==0)=false:=qah.mpr c12;have af:(n !=0)=true:=qbc.mpr c12
    (first|rw [u]|(simp only [zjm,zpt];rw [u])|skip)
    have q:=zq H;clear H;go_wp2
    go_meet
    case rel=>exact ⟨_,(true),kaf,q,⟨by have:=Z.o;first|omega|exact qad _⟩,⟨by (repeat (first|(with_reducible refine zah ?_ _)|(with_reducible refine zak ?_)|(with_reducible refine zaf ?_ _)|refine zav ?_ s.o _));(with_reducible repeat (first|refine zah ?_ _|refine zak ?_|refine zaf ?_ _));exact ao.o⟩,⟨by (with_reducible repeat (first|refine zah ?_ _|refine zak ?_|refine zaf ?_ _));refine zan (cs:=#[.int .i64 d,.int .i64 0]) ?_ 1 _ rfl;(with_reducible repeat (first|refine zah ?_ _|refine zak ?_|refine zaf ?_ _));refine zan (cs:=#[.int .i64 0,.int .i64 0]) ?_ 0 _ rfl;(with_reducible repeat (first|refine zah ?_ _|refine zak ?_|refine zaf ?_ _));exact b.o⟩,⟨by repeat (first|(with_reducible first|exact HB.o|apply zad|apply zaa|apply zae|refine zaj ?_ ax.o|refine zaj ?_ p.o)|exact HB.o)⟩⟩
   case rest=>
    clear J;(try clear c1);(try clear p2);(try clear c6);(try clear c10);(try clear aI);(try clear c12);(try clear u);(try clear af);(try clear a8);(try clear aA);(try clear aB);(try clear aC);(try clear p2);obtain ⟨m,G,rfl,r,aH,ao,b,HB⟩:=hcut;cases m with
    | zero=>exact absurd r.o (by simp [lychgateref03_ParsePrefix.j1])
    | succ b3=>
     have H:=r.o;clear r;simp only [lychgateref03_ParsePrefix.j1] at H;by_cases A:G=true
     ·subst A;rw [if_pos rfl] at H;simp only [qai,qap] at H;obtain ⟨rfl,rfl,rfl⟩:=H;have bu:=s.o;have bz:=y.o;have aJ:wc.cell? ⟨c,0,none⟩=some (.int .i64 0):=(zab ao.o 0).trans rfl;have aK:wc.cell? ⟨c,1,none⟩=some (.int .i64 0):=(zab ao.o 1).trans rfl;have aV:=zac ao.o 0;have aW:=zac ao.o 1;go_wp2;refine qaf (zbg rfl _ _ c 47 #[.int .i64 0,.int .i64 0] (0,0) _ rfl kbc underlying47 rfl kae) rfl ?_;exact ⟨by first|rfl|(simp [zap,zao]<;>rfl)|(simp [*,zap,zao]<;>rfl),by repeat (first|(with_reducible first|exact HB.o|apply zad|apply zaa|apply zae|refine zaj ?_ ax.o|refine zaj ?_ p.o)|exact HB.o)⟩
     replace A:=qbf.mpr A;subst A;rw [if_neg (show ¬(false=true) by decide)] at H;obtain ⟨aE,X,H⟩:=kbd H;(try dsimp only at H);by_cases B:aE=true
     ·subst B;rw [if_pos rfl] at H;simp only [qai,qap] at H;obtain ⟨rfl,rfl,rfl⟩:=H;have bv:=y.o;have b0:=s.o;have aL:wc.cell? ⟨l,0,none⟩=some (.int .i64 d):=(zab b.o 0).trans rfl;have aM:wc.cell? ⟨l,1,none⟩=some (.int .i64 j):=(zab b.o 1).trans rfl;have aX:=zac b.o 0;have aY:=zac b.o 1;go_wp2_with (first|((with_reducible refine zar (f:=148) rfl ?_);refine zbs (some 41) rfl rfl func148 kae rfl #[.agg #[.int .i64 d,.int .i64 j]] rfl kac ?_;(with_reducible refine (lychgateref03_Right.calls d j _ _ X.o).mono ?_);rintro e D ⟨rfl,i⟩;refine ⟨_,rfl,?_⟩;replace ao:=zq (zaq (g:=c) (o := .cells #[.int .i64 0,.int .i64 0] 47 (0,0)) kba i);replace b:=zq (zaq (g:=l) (o := .cells #[.int .i64 d,.int .i64 j] 47 (0,0)) (by (with_reducible repeat (first|refine zah ?_ _|refine zak ?_|refine zaf ?_ _));exact b.o) i);replace HB:=zq (zau (by repeat (first|(with_reducible first|exact HB.o|apply zad|apply zaa|apply zae|refine zaj ?_ ax.o|refine zaj ?_ p.o)|exact HB.o)) i);(try clear i);(try clear a7);(try clear hk);(try clear hi);have aN:D.cell? ⟨l,0,none⟩=some (.int .i64 d):=(zab b.o 0).trans rfl;have aO:D.cell? ⟨l,1,none⟩=some (.int .i64 j):=(zab b.o 1).trans rfl;have aZ:=zac b.o 0;have ba:=zac b.o 1;have aP:D.cell? ⟨c,0,none⟩=some (.int .i64 0):=(zab ao.o 0).trans rfl;have aQ:D.cell? ⟨c,1,none⟩=some (.int .i64 0):=(zab ao.o 1).trans rfl;have bb:=zac ao.o 0;have bc:=zac ao.o 1));refine qaf (zbg rfl _ _ c 47 #[.int .i64 d,.int .i64 j] (0,0) _ rfl (by (with_reducible repeat (first|refine zah ?_ _|refine zak ?_|refine zaf ?_ _));refine zan (cs:=#[.int .i64 d,.int .i64 0]) ?_ 1 _ rfl;(with_reducible repeat (first|refine zah ?_ _|refine zak ?_|refine zaf ?_ _));refine zan (cs:=#[.int .i64 0,.int .i64 0]) ?_ 0 _ rfl;(with_reducible repeat (first|refine zah ?_ _|refine zak ?_|refine zaf ?_ _));exact ao.o) underlying47 rfl kae) rfl ?_;exact ⟨by first|rfl|(simp [zap,zao]<;>rfl)|(simp [*,zap,zao]<;>rfl),by repeat (first|(with_reducible first|exact HB.o|apply zad|apply zaa|apply zae|refine zaj ?_ ax.o|refine zaj ?_ p.o)|exact HB.o)⟩
     replace B:=qbf.mpr B;subst B;rw [if_neg (show ¬(false=true) by decide)] at H;simp only [qai,qap] at H;obtain ⟨rfl,rfl,rfl⟩:=H;have bw:=y.o;have b1:=s.o;have aR:wc.cell? ⟨l,0,none⟩=some (.int .i64 d):=(zab b.o 0).trans rfl;have aS:wc.cell? ⟨l,1,none⟩=some (.int .i64 j):=(zab b.o 1).trans rfl;have bd:=zac b.o 0;have bk:=zac b.o 1;go_wp2_with (first|((with_reducible refine zar (f:=148) rfl ?_);refine zbs (some 41) rfl rfl func148 kae rfl #[.agg #[.int .i64 d,.int .i64 j]] rfl kac ?_;(with_reducible refine (lychgateref03_Right.calls d j _ _ X.o).mono ?_);rintro e a6 ⟨rfl,i⟩;refine ⟨_,rfl,?_⟩;replace ao:=zq (zaq (g:=c) (o := .cells #[.int .i64 0,.int .i64 0] 47 (0,0)) kba i);replace b:=zq (zaq (g:=l) (o := .cells #[.int .i64 d,.int .i64 j] 47 (0,0)) (by (with_reducible repeat (first|refine zah ?_ _|refine zak ?_|refine zaf ?_ _));exact b.o) i);replace HB:=zq (zau (by repeat (first|(with_reducible first|exact HB.o|apply zad|apply zaa|apply zae|refine zaj ?_ ax.o|refine zaj ?_ p.o)|exact HB.o)) i);(try clear i);(try clear a7);(try clear hk);(try clear hi);have aT:a6.cell? ⟨c,0,none⟩=some (.int .i64 0):=(zab ao.o 0).trans rfl;have aU:a6.cell? ⟨c,1,none⟩=some (.int .i64 0):=(zab ao.o 1).trans rfl;have bp:=zac ao.o 0;have bq:=zac ao.o 1));refine qaf (zbg rfl _ _ c 47 #[.int .i64 0,.int .i64 0] (0,0) _ rfl kbc underlying47 rfl kae) rfl ?_;exact ⟨by first|rfl|(simp [zap,zao]<;>rfl)|(simp [*,zap,zao]<;>rfl),by repeat (first|(with_reducible first|exact HB.o|apply zad|apply zaa|apply zae|refine zaj ?_ ax.o|refine zaj ?_ p.o)|exact HB.o)⟩
def lychgateref08_numbered.l0:Nat->ByteArray->Int->Option (Int×ByteArray×Int×Int×Int×Int×Bool)
 | 0,_,_=>none
 | k+1,b,c=>if c<(b.size:Int) then (if 0<=c then (if (bt b c)=46 then ((lychgateref03_ParsePrefix.f k b).bind fun d=>(some (5,(⟨#[]⟩:ByteArray),0,d.1,d.2.1,0,(d.2.2==0)))) else (if (bt b c)=47 then ((lychgateref03_ParsePrefix.f k b).bind fun e=>(some (5,(⟨#[]⟩:ByteArray),0,e.1,e.2.1,0,(e.2.2==0)))) else (lychgateref08_numbered.l0 k b (wrap64 (c+1))))) else (none)) else (some (0,(⟨#[]⟩:ByteArray),0,0,0,0,false))
def lychgateref08_numbered.f (k:Nat) (a0:ByteArray):Option (Int×ByteArray×Int×Int×Int×Int×Bool):=(lychgateref08_number.f k a0).bind fun b=>(if b.2=true then (some (4,(⟨#[]⟩:ByteArray),b.1,0,0,0,true)) else (lychgateref08_numbered.l0 k a0 0))
theorem lychgateref08_numbered.calls (k:Nat) (a0:ByteArray) (r1:Int) (r2:ByteArray) (r3:Int) (r4:Int) (I:Int) (J:Int) (L:Bool) (w:World) (h:lychgateref08_numbered.f k a0=some (r1,r2,r3,r4,I,J,L)) :
  Calls prog 86 #[.string a0] w fun e w'=>e = .returned (.tuple #[.agg #[.int .i64 r1,.string r2,.int .i64 r3,.int .i64 r4,.int .i64 I,.int .i64 J],.bool L])/\Below w.heap.size w w':=by
 have cj:=underlying49;have ci:=underlying47;have HB:=zq (qan w.heap.size w);have H:((lychgateref08_number.f k a0).bind fun af=>(if af.2=true then (some (4,(⟨#[]⟩:ByteArray),af.1,0,0,0,true)) else (lychgateref08_numbered.l0 k a0 0)))=some (r1,r2,r3,r4,I,J,L):=h;clear h;obtain ⟨⟨W,bk⟩,X,H⟩:=kbd H;try dsimp only at H
 by_cases c3:bk=true
 ·subst c3;rw [if_pos rfl] at H;simp only [qai,qap] at H;obtain ⟨rfl,rfl,rfl,rfl,rfl,rfl,rfl⟩:=H;go_enter func86,ntmps86;go_wp2_with (first|((with_reducible refine zcf (N:=2) rfl ?_);refine zcb ?hg (N:=2) ?hd (cs:=#[.int .i64 0,.string (⟨#[]⟩:ByteArray),.int .i64 0,.int .i64 0,.int .i64 0,.int .i64 0]) (t:=49) ?hr ?_;(case hd=>rfl);(case hg=>rfl);(case hr=>first|(go_simp;done)|(go_simp;rfl));intro c hg B q d;have al:=zq q;have bf:=zq (kge hg (zat kaa):w.heap.size<=c);replace HB:=zq (zau kaa d);clear d q hg)|((with_reducible refine zar (f:=118) rfl ?_);refine zbs (some 11) rfl rfl func118 kae rfl #[.string a0] rfl kac ?_;(with_reducible refine (lychgateref08_number.calls k a0 W _ _ X.o).mono ?_);rintro e w' ⟨rfl,⟨nd,rfl⟩⟩;refine ⟨_,rfl,?_⟩;(try (rw [drewN_self B];generalize O:World.drewN B _=B;have a6:Zq (B.heap[c]?=some (.cells #[.int .i64 0,.string (⟨#[]⟩:ByteArray),.int .i64 0,.int .i64 0,.int .i64 0,.int .i64 0] 49 (0,0))):=⟨by rw [<-O];exact kar⟩;have a7:Zq (Below w.heap.size w B):=⟨by rw [<-O];exact kaq⟩;clear al HB O;have al:=a6;have HB:=a7;clear a6 a7));obtain ⟨aR,aS,aT,aU,aV,aW,aX,aY,aZ,ba,bb,bc⟩:=zby al.o));refine qaf (zbg rfl _ _ c 49 #[.int .i64 4,.string (⟨#[]⟩:ByteArray),.int .i64 W,.int .i64 0,.int .i64 0,.int .i64 0] (0,0) _ rfl (by apply zcl;(with_reducible repeat (first|refine zah ?_ _|refine zak ?_|refine zaf ?_ _));exact al.o) underlying49 rfl kae) rfl ?_;exact ⟨by first|rfl|(simp [zap,zao]<;>rfl)|(simp [*,zap,zao]<;>rfl),kaq⟩
 replace c3:=qbf.mpr c3;subst c3;rw [if_neg (show ¬(false=true) by decide)] at H;have G:=zq H;clear H;go_enter func86,ntmps86;go_wp2_with (first|((with_reducible refine zcf (N:=2) rfl ?_);refine zcb ?hg (N:=2) ?hd (cs:=#[.int .i64 0,.string (⟨#[]⟩:ByteArray),.int .i64 0,.int .i64 0,.int .i64 0,.int .i64 0]) (t:=49) ?hr ?_;(case hd=>rfl);(case hg=>rfl);(case hr=>first|(go_simp;done)|(go_simp;rfl));intro c hg w6 q d;have al:=zq q;have bf:=zq (kge hg (zat kaa):w.heap.size<=c);replace HB:=zq (zau kaa d);clear d q hg)|((with_reducible refine zar (f:=118) rfl ?_);refine zbs (some 11) rfl rfl func118 kae rfl #[.string a0] rfl kac ?_;(with_reducible refine (lychgateref08_number.calls k a0 W _ _ X.o).mono ?_);rintro e w' ⟨rfl,⟨nd,rfl⟩⟩;refine ⟨_,rfl,?_⟩));go_loopg [6] k (fun kq v6 w'=>∃ (b:Int) (i:Int) (j:ByteArray) (l:Int) (m:Int) (n:Int) (p:Int),v6 = .int .i64 b/\Zq (lychgateref08_numbered.l0 kq a0 b=some (r1,r2,r3,r4,I,J,L))/\Zq (kq<=k)/\Zq (w'.heap[c]?=some (.cells #[.int .i64 i,.string j,.int .i64 l,.int .i64 m,.int .i64 n,.int .i64 p] 49 (0,0)))/\Zq (Below w.heap.size w w'));case atStart=>exact ⟨(0),(0),((⟨#[]⟩:ByteArray)),(0),(0),(0),(0),kaf,G,⟨qad _⟩,⟨kar⟩,⟨kaq⟩⟩
 case round=>
  clear G;try clear c1
  try clear p2
  try clear c3
  try clear aR
  try clear aS
  try clear aT
  try clear aU
  try clear aV
  try clear aW
  try clear aX
  try clear aY
  try clear aZ
  try clear ba
  try clear bb
  try clear bc
  obtain ⟨b,i,j,l,m,n,p,rfl,M,Y,al,HB⟩:=hrel;cases gk with
  | zero=>exact absurd M.o (by simp [lychgateref08_numbered.l0])
  | succ U=>
   have H:=M.o;clear M;simp only [lychgateref08_numbered.l0] at H;by_cases c7:b<(a0.size:Int)
   ·rw [if_pos c7] at H;have aP:decide (b<(a0.size:Int))=true:=qac c7;clear c7;by_cases c8:0<=b
    ·rw [if_pos c8] at H;have br:decide (0<=b)=true:=qac c8;clear c8;by_cases c10:(bt a0 b)=46
     ·rw [if_pos c10] at H;have aL:((bt a0 b)==46)=true:=qar.mpr c10;have aM:((bt a0 b)!=46)=false:=qaq.mpr c10;clear c10;obtain ⟨⟨a8,aA,bp⟩,aF,H⟩:=kbd H;(try dsimp only at H);simp only [qai,qap] at H;obtain ⟨rfl,rfl,rfl,rfl,rfl,rfl,rfl⟩:=H;have r:0<=(b:Int):=kao;have s:b<(a0.size:Int):=kao;have a1:=zcs a0 b;replace r:=eq_true r;replace s:=eq_true s;go_wp2_with (first|((with_reducible refine zar (f:=119) rfl ?_);refine zbs (some 35) rfl rfl func119 kae rfl #[.string a0] rfl kac ?_;(with_reducible refine (lychgateref03_ParsePrefix.calls U a0 a8 aA bp _ aF.o).mono ?_);rintro e ck ⟨rfl,d⟩;refine ⟨_,rfl,?_⟩;replace al:=zq (zaq (g:=c) (o := .cells #[.int .i64 i,.string j,.int .i64 l,.int .i64 m,.int .i64 n,.int .i64 p] 49 (0,0)) kar d);replace HB:=zq (zau kaq d);(try clear d);(try clear aQ);(try clear hk);(try clear hi))|((with_reducible refine zcf (N:=7) rfl ?_);refine zcb ?hg (N:=7) ?hd (cs:=#[.int .i64 0,.int .i64 0]) (t:=47) ?hr ?_;(case hd=>rfl);(case hg=>rfl);(case hr=>first|(go_simp;done)|(go_simp;rfl));intro x hg aD q d;have D:=zq q;have aH:=zq (kge hg (zat kaq):w.heap.size<=x);have Z:=zq ((by rw [hg];exact Nat.ne_of_lt (zam (g:=c) (o := .cells #[.int .i64 i,.string j,.int .i64 l,.int .i64 m,.int .i64 n,.int .i64 p] 49 (0,0)) kar):c≠x));have aJ:=zq ((by rw [hg];exact Nat.ne_of_gt (zam (g:=c) (o := .cells #[.int .i64 i,.string j,.int .i64 l,.int .i64 m,.int .i64 n,.int .i64 p] 49 (0,0)) kar):x≠c));replace al:=zq (zaq (g:=c) (o := .cells #[.int .i64 i,.string j,.int .i64 l,.int .i64 m,.int .i64 n,.int .i64 p] 49 (0,0)) kar d);replace HB:=zq (zau kaq d);clear d q hg;have ce:=aJ.o;have cg:=Z.o;have bu:aD.cell? ⟨x,0,none⟩=some (.int .i64 0):=(zab D.o 0).trans rfl;have bv:aD.cell? ⟨x,1,none⟩=some (.int .i64 0):=(zab D.o 1).trans rfl;have bI:=zac D.o 0;have bJ:=zac D.o 1;obtain ⟨bw,bx,bz,b0,b1,b2,bK,bL,bM,bN,bO,bP⟩:=zby al.o));refine qaf (zbg rfl _ _ c 49 #[.int .i64 5,.string (⟨#[]⟩:ByteArray),.int .i64 0,.int .i64 a8,.int .i64 aA,.int .i64 0] (0,0) _ rfl (by apply zcl;(repeat (first|(with_reducible refine zah ?_ _)|(with_reducible refine zak ?_)|(with_reducible refine zaf ?_ _)|refine zav ?_ Z.o _));(with_reducible repeat (first|refine zah ?_ _|refine zak ?_|refine zaf ?_ _));exact al.o) underlying49 rfl kae) rfl ?_;exact ⟨by first|rfl|(simp [zap,zao]<;>rfl)|(simp [*,zap,zao]<;>rfl),by repeat (first|(with_reducible first|exact HB.o|apply zad|apply zaa|apply zae|refine zaj ?_ bf.o|refine zaj ?_ aH.o)|exact HB.o)⟩
     rw [if_neg c10] at H;have aL:((bt a0 b)==46)=false:=qah.mpr c10;have aM:((bt a0 b)!=46)=true:=qbc.mpr c10;by_cases u:(bt a0 b)=47
     ·rw [if_pos u] at H;have aN:((bt a0 b)==47)=true:=qar.mpr u;have aO:((bt a0 b)!=47)=false:=qaq.mpr u;clear u;obtain ⟨⟨aB,aC,bq⟩,aG,H⟩:=kbd H;(try dsimp only at H);simp only [qai,qap] at H;obtain ⟨rfl,rfl,rfl,rfl,rfl,rfl,rfl⟩:=H;have r:0<=(b:Int):=kao;have s:b<(a0.size:Int):=kao;have a1:=zcs a0 b;replace r:=eq_true r;replace s:=eq_true s;have z:0<=(b:Int):=kao;have A:b<(a0.size:Int):=kao;have bd:=zcs a0 b;replace z:=eq_true z;replace A:=eq_true A;go_wp2_with (first|((with_reducible refine zar (f:=119) rfl ?_);refine zbs (some 35) rfl rfl func119 kae rfl #[.string a0] rfl kac ?_;(with_reducible refine (lychgateref03_ParsePrefix.calls U a0 aB aC bq _ aG.o).mono ?_);rintro e cl ⟨rfl,d⟩;refine ⟨_,rfl,?_⟩;replace al:=zq (zaq (g:=c) (o := .cells #[.int .i64 i,.string j,.int .i64 l,.int .i64 m,.int .i64 n,.int .i64 p] 49 (0,0)) kar d);replace HB:=zq (zau kaq d);(try clear d);(try clear aQ);(try clear hk);(try clear hi))|((with_reducible refine zcf (N:=7) rfl ?_);refine zcb ?hg (N:=7) ?hd (cs:=#[.int .i64 0,.int .i64 0]) (t:=47) ?hr ?_;(case hd=>rfl);(case hg=>rfl);(case hr=>first|(go_simp;done)|(go_simp;rfl));intro y hg aE q d;have E:=zq q;have aI:=zq (kge hg (zat kaq):w.heap.size<=y);have ad:=zq ((by rw [hg];exact Nat.ne_of_lt (zam (g:=c) (o := .cells #[.int .i64 i,.string j,.int .i64 l,.int .i64 m,.int .i64 n,.int .i64 p] 49 (0,0)) kar):c≠y));have aK:=zq ((by rw [hg];exact Nat.ne_of_gt (zam (g:=c) (o := .cells #[.int .i64 i,.string j,.int .i64 l,.int .i64 m,.int .i64 n,.int .i64 p] 49 (0,0)) kar):y≠c));replace al:=zq (zaq (g:=c) (o := .cells #[.int .i64 i,.string j,.int .i64 l,.int .i64 m,.int .i64 n,.int .i64 p] 49 (0,0)) kar d);replace HB:=zq (zau kaq d);clear d q hg;have cf:=aK.o;have ch:=ad.o;have b3:aE.cell? ⟨y,0,none⟩=some (.int .i64 0):=(zab E.o 0).trans rfl;have b4:aE.cell? ⟨y,1,none⟩=some (.int .i64 0):=(zab E.o 1).trans rfl;have bQ:=zac E.o 0;have bR:=zac E.o 1;obtain ⟨b5,b6,b7,b8,b9,bA,bS,bT,bU,bV,bW,bX⟩:=zby al.o));refine qaf (zbg rfl _ _ c 49 #[.int .i64 5,.string (⟨#[]⟩:ByteArray),.int .i64 0,.int .i64 aB,.int .i64 aC,.int .i64 0] (0,0) _ rfl (by apply zcl;(repeat (first|(with_reducible refine zah ?_ _)|(with_reducible refine zak ?_)|(with_reducible refine zaf ?_ _)|refine zav ?_ ad.o _));(with_reducible repeat (first|refine zah ?_ _|refine zak ?_|refine zaf ?_ _));exact al.o) underlying49 rfl kae) rfl ?_;exact ⟨by first|rfl|(simp [zap,zao]<;>rfl)|(simp [*,zap,zao]<;>rfl),by repeat (first|(with_reducible first|exact HB.o|apply zad|apply zaa|apply zae|refine zaj ?_ bf.o|refine zaj ?_ aI.o)|exact HB.o)⟩
     rw [if_neg u] at H;have aN:((bt a0 b)==47)=false:=qah.mpr u;have aO:((bt a0 b)!=47)=true:=qbc.mpr u;have G:=zq H;clear H;have r:0<=(b:Int):=kao;have s:b<(a0.size:Int):=kao;have a1:=zcs a0 b;replace r:=eq_true r;replace s:=eq_true s;have z:0<=(b:Int):=kao;have A:b<(a0.size:Int):=kao;have bd:=zcs a0 b;replace z:=eq_true z;replace A:=eq_true A;go_wp2
     go_roundg U
     case measure=>have:=Y.o;omega
     case rel=>exact ⟨(wrap64 (b+1)),(i),(j),(l),(m),(n),(p),kaf,G,⟨by have:=Y.o;omega⟩,⟨kar⟩,⟨kaq⟩⟩
    rw [if_neg c8] at H;exact absurd H (by simp)
   rw [if_neg c7] at H;have aP:decide (b<(a0.size:Int))=false:=qak c7;clear c7;simp only [qai,qap] at H;obtain ⟨rfl,rfl,rfl,rfl,rfl,rfl,rfl⟩:=H;have bB:wr.cell? ⟨c,0,none⟩=some (.int .i64 i):=(zab al.o 0).trans rfl;have bD:wr.cell? ⟨c,1,none⟩=some (.string j):=(zab al.o 1).trans rfl;have bE:wr.cell? ⟨c,2,none⟩=some (.int .i64 l):=(zab al.o 2).trans rfl;have bF:wr.cell? ⟨c,3,none⟩=some (.int .i64 m):=(zab al.o 3).trans rfl;have bG:wr.cell? ⟨c,4,none⟩=some (.int .i64 n):=(zab al.o 4).trans rfl;have bH:wr.cell? ⟨c,5,none⟩=some (.int .i64 p):=(zab al.o 5).trans rfl;have bY:=zac al.o 0;have bZ:=zac al.o 1;have ca:=zac al.o 2;have cb:=zac al.o 3;have cc:=zac al.o 4;have cd:=zac al.o 5;go_wp2;refine qaf (zbg rfl _ _ c 49 #[.int .i64 0,.string (⟨#[]⟩:ByteArray),.int .i64 0,.int .i64 0,.int .i64 0,.int .i64 0] (0,0) _ rfl (by apply zcl;(with_reducible repeat (first|refine zah ?_ _|refine zak ?_|refine zaf ?_ _));exact al.o) underlying49 rfl kae) rfl ?_;exact ⟨by first|rfl|(simp [zap,zao]<;>rfl)|(simp [*,zap,zao]<;>rfl),kaq⟩
mutual
def lychgateref08_text.l0:Nat->ByteArray->List Int->Int->Option (ByteArray×Int×Bool)
 | 0,_,_,_=>none
 | k+1,x0,x7,x8=>if x8<(x0.size:Int) then (if 0<=x8 then (if (bt x0 x8)=34 then (some (strOfNums x7,wrap64 (x8+1),decide ((x7.length:Int)<=200))) else (if (bt x0 x8)<32 then (lychgateref08_text.j1 k x0 x7 x8 (bt x0 x8) true) else (lychgateref08_text.j1 k x0 x7 x8 (bt x0 x8) (decide ((bt x0 x8)>126))))) else (none)) else (some ((⟨#[]⟩:ByteArray),0,false))
def lychgateref08_text.j1:Nat->ByteArray->List Int->Int->Int->Bool->Option (ByteArray×Int×Bool)
 | 0,_,_,_,_,_=>none
 | k+1,x0,x7,x8,x9,x31=>if x31=true then (some ((⟨#[]⟩:ByteArray),0,false)) else (if x9=92 then (if (wrap64 (x8+1))=(x0.size:Int) then (some ((⟨#[]⟩:ByteArray),0,false)) else (if 0<=(wrap64 (x8+1)) then (if (wrap64 (x8+1))<(x0.size:Int) then (if (bt x0 (wrap64 (x8+1)))=34 then (if x7.length<140737488355328 then (lychgateref08_text.l0 k x0 (x7++[bt x0 (wrap64 (x8+1))]) (wrap64 ((wrap64 (x8+1))+1))) else (none)) else (if (bt x0 (wrap64 (x8+1)))=92 then (if x7.length<140737488355328 then (lychgateref08_text.l0 k x0 (x7++[bt x0 (wrap64 (x8+1))]) (wrap64 ((wrap64 (x8+1))+1))) else (none)) else (some ((⟨#[]⟩:ByteArray),0,false)))) else (none)) else (none))) else (if x7.length<140737488355328 then (lychgateref08_text.l0 k x0 (x7++[x9]) (wrap64 (x8+1))) else (none)))
end
def lychgateref08_text.f (k:Nat) (a0:ByteArray) (a1:Int):Option (ByteArray×Int×Bool):=lychgateref08_text.l0 k a0 ([]:List Int) (wrap64 (a1+1))
theorem lychgateref08_text.calls (k:Nat) (a0:ByteArray) (a1:Int) (r1:ByteArray) (r2:Int) (r3:Bool) (w:World) (h:lychgateref08_text.f k a0 a1=some (r1,r2,r3)) :
  Calls prog 87 #[.string a0,.int .i64 a1] w fun e w'=>e = .returned (.tuple #[.string r1,.int .i64 r2,.bool r3])/\Below w.heap.size w w':=by
 have HB:=zq (qan w.heap.size w);have H:(lychgateref08_text.l0 k a0 ([]:List Int) (wrap64 (a1+1)))=some (r1,r2,r3):=h;clear h;have j:=zq H;clear H;go_enter func87,ntmps87;go_wp2;go_loopg [7,8] k (fun E v7 v8 w'=>∃ (i:List Int) (d:Int),v8 = .int .i64 d/\Zq (lychgateref08_text.l0 E a0 i d=some (r1,r2,r3))/\Zq (E<=k)/\Zq (Kd.R (Kd.int .u8) 5 w' w.heap.size (fun _=>True) v7 i)/\Zq (Below w.heap.size w w'));case atStart=>exact ⟨(([]:List Int)),(wrap64 (a1+1)),kaf,j,⟨qad _⟩,⟨by first|exact Kd.R_nil _ _ _ _ _|exact Kd.N_nil _ _ _ _ _|exact Kd.V_nil _ _ _ _ _|exact Kd.Q_nil _ _ _ _ _|exact Kd.S_nil _ _ _ _ _⟩,⟨kaa⟩⟩
 case round=>
  clear j;try clear p2
  obtain ⟨i,d,rfl,z,n,be,HB⟩:=hrel;cases gk with
  | zero=>exact absurd z.o (by simp [lychgateref08_text.l0])
  | succ k1=>
   have H:=z.o;clear z;simp only [lychgateref08_text.l0] at H;by_cases c3:d<(a0.size:Int)
   ·rw [if_pos c3] at H;have aG:decide (d<(a0.size:Int))=true:=qac c3;clear c3;by_cases c4:0<=d
    ·rw [if_pos c4] at H;have bx:decide (0<=d)=true:=qac c4;clear c4;by_cases c6:(bt a0 d)=34
     ·rw [if_pos c6] at H;have aH:((bt a0 d)==34)=true:=qar.mpr c6;have aI:((bt a0 d)!=34)=false:=qaq.mpr c6;clear c6;simp only [qai,qap] at H;obtain ⟨rfl,rfl,rfl⟩:=H;have G:0<=(d:Int):=kao;have I:d<(a0.size:Int):=kao;have aK:=zcs a0 d;replace G:=eq_true G;replace I:=eq_true I;have b0:=zjv (P:=prog) underlying64 underlying5 underlying9 (Kd.own_of_R be.o);obtain ⟨b2,b5,bz⟩:=Kd.R_slice be.o;subst bz;go_wp2
      go_ret3
      exact ⟨by first|rfl|(simp [zap,zao]<;>rfl)|(simp [*,zap,zao]<;>rfl),kaa⟩
     rw [if_neg c6] at H;have aH:((bt a0 d)==34)=false:=qah.mpr c6;have aI:((bt a0 d)!=34)=true:=qbc.mpr c6;have aC:=zq H;clear H;have G:0<=(d:Int):=kao;have I:d<(a0.size:Int):=kao;have aK:=zcs a0 d;replace G:=eq_true G;replace I:=eq_true I;go_upto_region 8 with (fail)
     go_cut [31] (fun v31 wc=>∃ (E:Nat) (aA:Bool),v31 = .bool aA/\Zq (lychgateref08_text.j1 E a0 i d (bt a0 d) aA=some (r1,r2,r3))/\Zq (E<=k1)/\Zq (Kd.R (Kd.int .u8) 5 wc w.heap.size (fun _=>True) u7 i)/\Zq (Below w.heap.size w wc))
     case first=>
      have H:=aC.o;clear aC;by_cases c10:(bt a0 d)<32
      ·rw [if_pos c10] at H;have L:decide ((bt a0 d)<32)=true:=qac c10;clear c10
       (first|rw [L]|(simp only [zjm,zpt];rw [L])|skip)
       have j:=zq H;clear H;go_wp2
       go_meet
       case rel=>exact ⟨_,(true),kaf,j,⟨by have:=n.o;first|omega|exact qad _⟩,⟨kby⟩,⟨kaa⟩⟩
      rw [if_neg c10] at H;have L:decide ((bt a0 d)<32)=false:=qak c10;clear c10
      (first|rw [L]|(simp only [zjm,zpt];rw [L])|skip)
      have j:=zq H;clear H;go_wp2
      go_meet
      case rel=>exact ⟨_,(decide ((bt a0 d)>126)),kaf,j,⟨by have:=n.o;first|omega|exact qad _⟩,⟨kby⟩,⟨kaa⟩⟩
     case rest=>
      clear aC;(try clear c1);(try clear p2);(try clear c3);(try clear aG);(try clear c4);(try clear bx);(try clear G);(try clear I);(try clear aK);(try clear c6);(try clear aH);(try clear aI);(try clear p6);(try clear b0);(try clear c8);(try clear c10);(try clear L);(try clear p2);(try clear G);(try clear I);obtain ⟨E,aA,rfl,z,J,be,HB⟩:=hcut;cases E with
      | zero=>exact absurd z.o (by simp [lychgateref08_text.j1])
      | succ r=>
       have H:=z.o;clear z;simp only [lychgateref08_text.j1] at H;by_cases ad:aA=true
       ·subst ad;rw [if_pos rfl] at H;simp only [qai,qap] at H;obtain ⟨rfl,rfl,rfl⟩:=H;go_wp2
        go_ret3
        exact ⟨by first|rfl|(simp [zap,zao]<;>rfl)|(simp [*,zap,zao]<;>rfl),kaa⟩
       replace ad:=qbf.mpr ad;subst ad;rw [if_neg (show ¬(false=true) by decide)] at H;by_cases c12:(bt a0 d)=92
       ·rw [if_pos c12] at H;have bp:((bt a0 d)==92)=true:=qar.mpr c12;have bq:((bt a0 d)!=92)=false:=qaq.mpr c12;clear c12;by_cases A:(wrap64 (d+1))=(a0.size:Int)
        ·rw [if_pos A] at H;have aD:((wrap64 (d+1))==(a0.size:Int))=true:=qar.mpr A;have aE:((wrap64 (d+1))!=(a0.size:Int))=false:=qaq.mpr A;clear A;simp only [qai,qap] at H;obtain ⟨rfl,rfl,rfl⟩:=H;go_wp2
         go_ret3
         exact ⟨by first|rfl|(simp [zap,zao]<;>rfl)|(simp [*,zap,zao]<;>rfl),kaa⟩
        rw [if_neg A] at H;have aD:((wrap64 (d+1))==(a0.size:Int))=false:=qah.mpr A;have aE:((wrap64 (d+1))!=(a0.size:Int))=true:=qbc.mpr A;obtain ⟨c,q⟩:∃ j_:Int,(wrap64 (d+1))=j_:=⟨_,rfl⟩;replace H:(if 0<=(c) then (if (c)<(a0.size:Int) then (if (bt a0 (c))=34 then (if i.length<140737488355328 then (lychgateref08_text.l0 r a0 (i++[bt a0 (c)]) (wrap64 ((c)+1))) else (none)) else (if (bt a0 (c))=92 then (if i.length<140737488355328 then (lychgateref08_text.l0 r a0 (i++[bt a0 (c)]) (wrap64 ((c)+1))) else (none)) else (some ((⟨#[]⟩:ByteArray),0,false)))) else (none)) else (none))=some (r1,r2,r3):=(by first|(rw [q] at H;exact H)|(simp only [q] at H ⊢;exact H));(try rw [q] at aD);(try rw [q] at aE);have b6:(IntKind.i64.wrap (d+1))=c:=(zjm _).trans q;by_cases af:0<=(c)
        ·rw [if_pos af] at H;have b3:decide (0<=(c))=true:=qac af;clear af;by_cases a6:(c)<(a0.size:Int)
         ·rw [if_pos a6] at H;have b4:decide ((c)<(a0.size:Int))=true:=qac a6;clear a6;by_cases B:(bt a0 (c))=34
          ·rw [if_pos B] at H;have br:((bt a0 (c))==34)=true:=qar.mpr B;have bu:((bt a0 (c))!=34)=false:=qaq.mpr B;clear B;by_cases c20:i.length<140737488355328
           ·rw [if_pos c20] at H;have aZ:=zq c20;clear c20;obtain ⟨aT,O⟩:∃ Z:List Int,Z=(i++[bt a0 (c)]):=⟨_,rfl⟩;replace H:(lychgateref08_text.l0 r a0 aT (wrap64 ((c)+1)))=some (r1,r2,r3):=(by first|(rw [O];with_reducible exact H)|(have l:=(qam _ _).symm.trans H;rw [O];with_reducible exact l)|(have l:=(qam _ _).symm.trans H;with_reducible exact l)|with_reducible exact H|(rw [O];exact H)|exact H);have bc:=zq O;clear O;have j:=zq H;clear H;have x:0<=((c):Int):=kao;have y:(c)<(a0.size:Int):=kao;have aJ:=zcs a0 (c);replace x:=eq_true x;replace y:=eq_true y;have aM:0<=((c):Int):=kao;have aQ:(c)<(a0.size:Int):=kao;have b7:=zcs a0 (c);replace aM:=eq_true aM;replace aQ:=eq_true aQ;go_wp2_with (first|((with_reducible refine zas (b := .append) (xs:=#[.tmp 62,.tmp 64]) rfl ?_);at_builtin;refine Kd.R_append (Kd.int .u8) (w0:=w) w.heap.size rfl (.tmp 62) (.tmp 64) 64 5 (.int .u8 0) 1 rfl underlying64 zsk rfl kad kab u7 i (bt a0 (c)) [.int .u8 (bt a0 (c))] (fun _=>True) (fun _=>False) rfl rfl ?aP (fun _ hk=>hk.elim) ?aF ?aO ?aB ?aS ?aL ?_;(case aP=>exact rfl);(case aB=>exact kaa);(case aF=>exact (fun _ _=>trivial));(case aO=>exact kby);(case aS=>exact (zat kaa));(case aL=>have:=aZ.o;omega);intro b9 bD m p hg M;rw [<-bc.o] at m;have s:=zq p;have u:=zq m;clear HB;clear be;have HB:=s;have aW:=u;clear s u;clear m p hg M))
            go_roundg r
            case measure=>have:=n.o;have:=J.o;omega
            case rel=>exact ⟨(aT),(wrap64 ((c)+1)),(by first|rfl|(simp;done)|(simp only [<-q]<;>(first|rfl|simp))|(simp [*];done)),j,⟨by have:=n.o;have:=J.o;omega⟩,⟨by (with_reducible repeat (first|apply Kd.R_alloc|apply Kd.R_drewN|apply Kd.R_drew));exact aW.o⟩,⟨kaa⟩⟩
           rw [if_neg c20] at H;exact absurd H (by simp)
          rw [if_neg B] at H;have br:((bt a0 (c))==34)=false:=qah.mpr B;have bu:((bt a0 (c))!=34)=true:=qbc.mpr B;by_cases D:(bt a0 (c))=92
          ·rw [if_pos D] at H;have bv:((bt a0 (c))==92)=true:=qar.mpr D;have bw:((bt a0 (c))!=92)=false:=qaq.mpr D;clear D;by_cases a7:i.length<140737488355328
           ·rw [if_pos a7] at H;have ba:=zq a7;clear a7;obtain ⟨aU,U⟩:∃ Z:List Int,Z=(i++[bt a0 (c)]):=⟨_,rfl⟩;replace H:(lychgateref08_text.l0 r a0 aU (wrap64 ((c)+1)))=some (r1,r2,r3):=(by first|(rw [U];with_reducible exact H)|(have l:=(qam _ _).symm.trans H;rw [U];with_reducible exact l)|(have l:=(qam _ _).symm.trans H;with_reducible exact l)|with_reducible exact H|(rw [U];exact H)|exact H);have bd:=zq U;clear U;have j:=zq H;clear H;have x:0<=((c):Int):=kao;have y:(c)<(a0.size:Int):=kao;have aJ:=zcs a0 (c);replace x:=eq_true x;replace y:=eq_true y;have X:0<=((c):Int):=kao;have Y:(c)<(a0.size:Int):=kao;have b1:=zcs a0 (c);replace X:=eq_true X;replace Y:=eq_true Y;have aN:0<=((c):Int):=kao;have aR:(c)<(a0.size:Int):=kao;have b8:=zcs a0 (c);replace aN:=eq_true aN;replace aR:=eq_true aR;go_wp2_with (first|((with_reducible refine zas (b := .append) (xs:=#[.tmp 62,.tmp 64]) rfl ?_);at_builtin;refine Kd.R_append (Kd.int .u8) (w0:=w) w.heap.size rfl (.tmp 62) (.tmp 64) 64 5 (.int .u8 0) 1 rfl underlying64 zsk rfl kad kab u7 i (bt a0 (c)) [.int .u8 (bt a0 (c))] (fun _=>True) (fun _=>False) rfl rfl ?aP (fun _ hk=>hk.elim) ?aF ?aO ?aB ?aS ?aL ?_;(case aP=>exact rfl);(case aB=>exact kaa);(case aF=>exact (fun _ _=>trivial));(case aO=>exact kby);(case aS=>exact (zat kaa));(case aL=>have:=ba.o;omega);intro bA bE m p hg M;rw [<-bd.o] at m;have s:=zq p;have u:=zq m;clear HB;clear be;have HB:=s;have aX:=u;clear s u;clear m p hg M))
            go_roundg r
            case measure=>have:=n.o;have:=J.o;omega
            case rel=>exact ⟨(aU),(wrap64 ((c)+1)),(by first|rfl|(simp;done)|(simp only [<-q]<;>(first|rfl|simp))|(simp [*];done)),j,⟨by have:=n.o;have:=J.o;omega⟩,⟨by (with_reducible repeat (first|apply Kd.R_alloc|apply Kd.R_drewN|apply Kd.R_drew));exact aX.o⟩,⟨kaa⟩⟩
           rw [if_neg a7] at H;exact absurd H (by simp)
          rw [if_neg D] at H;have bv:((bt a0 (c))==92)=false:=qah.mpr D;have bw:((bt a0 (c))!=92)=true:=qbc.mpr D;simp only [qai,qap] at H;obtain ⟨rfl,rfl,rfl⟩:=H;have x:0<=((c):Int):=kao;have y:(c)<(a0.size:Int):=kao;have aJ:=zcs a0 (c);replace x:=eq_true x;replace y:=eq_true y;have X:0<=((c):Int):=kao;have Y:(c)<(a0.size:Int):=kao;have b1:=zcs a0 (c);replace X:=eq_true X;replace Y:=eq_true Y;go_wp2
          go_ret3
          exact ⟨by first|rfl|(simp [zap,zao]<;>rfl)|(simp only [<-q];first|rfl|(simp [zap,zao]<;>rfl))|(simp [*,zap,zao]<;>rfl),kaa⟩
         rw [if_neg a6] at H;exact absurd H (by simp)
        rw [if_neg af] at H;exact absurd H (by simp)
       rw [if_neg c12] at H;have bp:((bt a0 d)==92)=false:=qah.mpr c12;have bq:((bt a0 d)!=92)=true:=qbc.mpr c12;by_cases a8:i.length<140737488355328
       ·rw [if_pos a8] at H;have bb:=zq a8;clear a8;obtain ⟨aV,W⟩:∃ Z:List Int,Z=(i++[(bt a0 d)]):=⟨_,rfl⟩;replace H:(lychgateref08_text.l0 r a0 aV (wrap64 (d+1)))=some (r1,r2,r3):=(by first|(rw [W];with_reducible exact H)|(have l:=(qam _ _).symm.trans H;rw [W];with_reducible exact l)|(have l:=(qam _ _).symm.trans H;with_reducible exact l)|with_reducible exact H|(rw [W];exact H)|exact H);have bk:=zq W;clear W;have j:=zq H;clear H;go_wp2_with (first|((with_reducible refine zas (b := .append) (xs:=#[.tmp 62,.tmp 64]) rfl ?_);at_builtin;refine Kd.R_append (Kd.int .u8) (w0:=w) w.heap.size rfl (.tmp 62) (.tmp 64) 64 5 (.int .u8 0) 1 rfl underlying64 zsk rfl kad kab u7 i (bt a0 d) [.int .u8 (bt a0 d)] (fun _=>True) (fun _=>False) rfl rfl ?aP (fun _ hk=>hk.elim) ?aF ?aO ?aB ?aS ?aL ?_;(case aP=>exact rfl);(case aB=>exact kaa);(case aF=>exact (fun _ _=>trivial));(case aO=>exact kby);(case aS=>exact (zat kaa));(case aL=>have:=bb.o;omega);intro bB bF m p hg M;rw [<-bk.o] at m;have s:=zq p;have u:=zq m;clear HB;clear be;have HB:=s;have aY:=u;clear s u;clear m p hg M))
        go_roundg r
        case measure=>have:=n.o;have:=J.o;omega
        case rel=>exact ⟨(aV),(wrap64 (d+1)),kaf,j,⟨by have:=n.o;have:=J.o;omega⟩,⟨by (with_reducible repeat (first|apply Kd.R_alloc|apply Kd.R_drewN|apply Kd.R_drew));exact aY.o⟩,⟨kaa⟩⟩
       rw [if_neg a8] at H;exact absurd H (by simp)
    rw [if_neg c4] at H;exact absurd H (by simp)
   rw [if_neg c3] at H;have aG:decide (d<(a0.size:Int))=false:=qak c3;clear c3;simp only [qai,qap] at H;obtain ⟨rfl,rfl,rfl⟩:=H;go_wp2
   go_ret3
   exact ⟨by first|rfl|(simp [zap,zao]<;>rfl)|(simp [*,zap,zao]<;>rfl),kaa⟩
end
section
attribute [local go_sem] zdv zdt zel zek zcz zcy zdu zds
def lychgateref08_one.l0:Nat->ByteArray->Int->Int->Int->Option (Int×ByteArray×Int×Int×Int×Int×Int×Int)
 | 0,_,_,_,_=>none
 | k+1,d,b,e,c=>if c<9 then (if 0<=c then (if (bt (⟨#[123,125,40,41,44,59,61,126,45]⟩:ByteArray) c)=e then (if 0<=b then (if b<=(wrap64 (b+1)) then (if (wrap64 (b+1))<=(d.size:Int) then (some (7,d.extract (b:Int).toNat ((wrap64 (b+1)):Int).toNat,0,0,0,0,wrap64 (b+1),0)) else (none)) else (none)) else (none)) else (lychgateref08_one.l0 k d b e (wrap64 (c+1)))) else (none)) else (some (0,(⟨#[]⟩:ByteArray),0,0,0,0,0,80))
def lychgateref08_one.f (k:Nat) (a0:ByteArray) (a1:Int):Option (Int×ByteArray×Int×Int×Int×Int×Int×Int):=if 0<=a1 then (if a1<(a0.size:Int) then ((lychgateref08_small.f (bt a0 a1)).bind fun j=>((lychgateref08_great.f (bt a0 a1)).bind fun l=>((lychgateref08_digit.f (bt a0 a1)).bind fun m=>(if j=true then ((lychgateref08_run.f k 1 a0 a1).bind fun b=>(if a1<=b then (if b<=(a0.size:Int) then ((lychgateref08_IsWord.f k (a0.extract (a1:Int).toNat (b:Int).toNat)).bind fun n=>(if n=true then (some (1,a0.extract (a1:Int).toNat (b:Int).toNat,0,0,0,0,b,0)) else (if (wrap64 (b-a1))>32 then (some (0,(⟨#[]⟩:ByteArray),0,0,0,0,0,82)) else (some (2,a0.extract (a1:Int).toNat (b:Int).toNat,0,0,0,0,b,0))))) else (none)) else (none))) else (if l=true then ((lychgateref08_run.f k 2 a0 a1).bind fun d=>(if (wrap64 (d-a1))>16 then (some (0,(⟨#[]⟩:ByteArray),0,0,0,0,0,82)) else (if a1<=d then (if d<=(a0.size:Int) then (some (3,a0.extract (a1:Int).toNat (d:Int).toNat,0,0,0,0,d,0)) else (none)) else (none)))) else (if m=true then ((lychgateref08_run.f k 3 a0 a1).bind fun e=>(if a1<=e then (if e<=(a0.size:Int) then ((lychgateref08_numbered.f k (a0.extract (a1:Int).toNat (e:Int).toNat)).bind fun c=>(if c.2.2.2.2.2.2=true then (some (c.1,c.2.1,c.2.2.1,c.2.2.2.1,c.2.2.2.2.1,c.2.2.2.2.2.1,e,0)) else (some (0,(⟨#[]⟩:ByteArray),0,0,0,0,0,81)))) else (none)) else (none))) else (if (bt a0 a1)=34 then ((lychgateref08_text.f k a0 a1).bind fun i=>(if i.2.2=true then (some (6,i.1,0,0,0,0,i.2.1,0)) else (some (0,(⟨#[]⟩:ByteArray),0,0,0,0,0,83)))) else (lychgateref08_one.l0 k a0 a1 (bt a0 a1) 0)))))))) else (none)) else (none)
theorem lychgateref08_one.calls (k:Nat) (a0:ByteArray) (a1:Int) (r1:Int) (r2:ByteArray) (r3:Int) (r4:Int) (U:Int) (W:Int) (X:Int) (Y:Int) (w:World) (h:lychgateref08_one.f k a0 a1=some (r1,r2,r3,r4,U,W,X,Y)) :
  Calls prog 55 #[.string a0,.int .i64 a1] w fun e w'=>e = .returned (.tuple #[.agg #[.int .i64 r1,.string r2,.int .i64 r3,.int .i64 r4,.int .i64 U,.int .i64 W],.int .i64 X,.int .i64 Y])/\Below w.heap.size w w':=by
 unfold lychgateref08_one.f at h;obtain ⟨h0,h⟩:=hif h;obtain ⟨h1,h⟩:=hif h;have c0:=qac h0;have c1:=qac h1;obtain ⟨sm,A1,h⟩:=hbd h;obtain ⟨gr,A2,h⟩:=hbd h;obtain ⟨dg,A3,h⟩:=hbd h;have ad:=zq (fun w=>lychgateref08_small.calls _ sm w A1.o);have af:=zq (fun w=>lychgateref08_great.calls _ gr w A2.o);have a6:=zq (fun w=>lychgateref08_digit.calls _ dg w A3.o);have i:=zq h;clear A1 A2 A3 h;have p0:=eq_true h0;have p1:=eq_true h1;have hx:=zcs a0 a1;go_enter func55,ntmps55;go_upto_region 5 with (first
  | (go_at_call 81;refine (ad.o _).mono ?_;rintro e1 w1 ⟨rfl,hd⟩;have ab:=zq (zgo hd (qab w _));have am:=zq (zff hd (zad (qan _ w) _));clear hd ad)
  | (go_at_call 82;refine (af.o _).mono ?_;rintro e2 w2 ⟨rfl,hd⟩;have aB:=zq (zgo hd ab.o);have aj:=zq (zff hd am.o);clear hd af)
  | (go_at_call 83;refine (a6.o _).mono ?_;rintro e3 w3 ⟨rfl,hd⟩;have r:=zq (zgo hd aB.o);have p:=zq (zff hd aj.o);clear hd a6))
 have H:=i.o;clear i;cases sm
 ·rw [if_neg kad] at H;cases gr
  ·rw [if_neg kad] at H;cases dg
   ·rw [if_neg kad] at H;by_cases B:bt a0 a1=34
    ·rw [if_pos B] at H;have aD:=qar.2 B;obtain ⟨⟨t1,t2,t3⟩,j,H⟩:=hbd H;dsimp only at H;have l:=zq (fun w=>lychgateref08_text.calls k a0 a1 t1 t2 t3 w j.o);have i:=zq H;clear j H;go_upto_region 26 with (go_at_call 87;refine (l.o _).mono ?_;rintro O Z ⟨rfl,m⟩;have c:=(m.block _ (zam r.o)).trans r.o;have d:=zbb p.o p.o.size m;clear m l);have H:=i.o;clear i;obtain ⟨u0,u1,u2,u3,u4,u5,g0,g1,g2,g3,g4,g5⟩:=zby c;cases t3
     ·rw [if_neg kad] at H;simp only [qai,qap] at H;obtain ⟨rfl,rfl,rfl,rfl,rfl,rfl,rfl,rfl⟩:=H;go_wp2;refine qaf (zbh rfl _ _ w.heap.size 49 _ (0,0) _ rfl (zcl c _ _ _ _ _ _) underlying49 rfl kae) rfl ⟨rfl,zbw d (qad _) _ _ _ _ _ _⟩
     rw [if_pos rfl] at H;simp only [qai,qap] at H;obtain ⟨rfl,rfl,rfl,rfl,rfl,rfl,rfl,rfl⟩:=H;go_wp2;refine qaf (zbh rfl _ _ w.heap.size 49 _ (0,0) _ rfl (zcl c _ _ _ _ _ _) underlying49 rfl kae) rfl ⟨rfl,zbw d (qad _) _ _ _ _ _ _⟩
    rw [if_neg B] at H;have aD:=qah.2 B;have i:=zq H;clear H;go_wp2;go_loopg [20] k (fun kq v w'=>∃ x:Int,v = .int .i64 x/\Zq (lychgateref08_one.l0 kq a0 a1 (bt a0 a1) x=some (r1,r2,r3,r4,U,W,X,Y))/\Zq (kq<=k)/\Zq (w'.heap[w.heap.size]?=some (.cells #[.int .i64 0,.string ⟨#[]⟩,.int .i64 0,.int .i64 0,.int .i64 0,.int .i64 0] 49 (0,0)))/\Zq (Below w.heap.size w w'));case atStart=>exact ⟨0,rfl,i,⟨qad _⟩,r,p⟩
    case round=>
     clear i r p;obtain ⟨x,rfl,HA,HK,HX,HB⟩:=hrel;have c:=HX.o;have d:=HB.o;obtain ⟨u0,u1,u2,u3,u4,u5,g0,g1,g2,g3,g4,g5⟩:=zby c;cases gk with
     | zero=>cases HA.o
     | succ k1=>
      have H:=HA.o;simp only [lychgateref08_one.l0] at H;by_cases A:x<9
      ·rw [if_pos A] at H;obtain ⟨a7,H⟩:=hif H;have p9:=eq_true A;have aF:=eq_true a7;have c9:=qac A;have c10:=qac a7;have aE:=zcs (⟨#[123,125,40,41,44,59,61,126,45]⟩:ByteArray) x;by_cases D:bt (⟨#[123,125,40,41,44,59,61,126,45]⟩:ByteArray) x=bt a0 a1
       ·rw [if_pos D] at H;have ce:=qar.2 D;obtain ⟨h6,H⟩:=hif H;obtain ⟨h7,H⟩:=hif H;obtain ⟨h8,H⟩:=hif H;have c7:=qac h7;have c8:=qac h8;simp only [qai,qap] at H;obtain ⟨rfl,rfl,rfl,rfl,rfl,rfl,rfl,rfl⟩:=H;go_wp2;refine qaf (zbh rfl _ _ w.heap.size 49 _ (0,0) _ rfl (zcl c _ _ _ _ _ _) underlying49 rfl kae) rfl ⟨rfl,zbw d (qad _) _ _ _ _ _ _⟩
       rw [if_neg D] at H;have ce:=qah.2 D;have H':=zq H;clear H;go_wp2
       go_roundg k1
       case measure=>have:=HK.o;omega
       case rel=>exact ⟨wrap64 (x+1),by rw [show wrap64 (x+1)=x+1 by unfold wrap64;omega],H',⟨by have:=HK.o;omega⟩,HX,HB⟩
      rw [if_neg A] at H;have c9:=qak A;simp only [qai,qap] at H;obtain ⟨rfl,rfl,rfl,rfl,rfl,rfl,rfl,rfl⟩:=H;go_wp2;refine qaf (zbh rfl _ _ w.heap.size 49 _ (0,0) _ rfl (zcl c _ _ _ _ _ _) underlying49 rfl kae) rfl ⟨rfl,zbw d (qad _) _ _ _ _ _ _⟩
   rw [if_pos rfl] at H;obtain ⟨n,j,H⟩:=hbd H;obtain ⟨y,H⟩:=hif H;obtain ⟨z,H⟩:=hif H;have c4:=qac y;have c5:=qac z;obtain ⟨⟨E,G,I,J,L,M,ok⟩,A5,H⟩:=hbd H;dsimp only at H;have l:=zq (fun w=>lychgateref08_run.calls k 3 a0 a1 n w j.o);have u:=zq (fun w=>lychgateref08_numbered.calls k _ E G I J L M ok w A5.o);have i:=zq H;clear j A5 H;go_upto_region 21 with (first
    | (go_at_call 84;refine (l.o _).mono ?_;rintro O Z ⟨rfl,hd⟩;have s:=zq (zgo hd r.o);have q:=zq (zff hd p.o);clear hd l)
    | (go_at_call 86;refine (u.o _).mono ?_;rintro e5 w5 ⟨rfl,m⟩;have aC:=zq ((m.block _ (zam s.o)).trans s.o);have d:=zq (zbb q.o q.o.size m);clear m u))
   have H:=i.o;clear i;have hT:=qab w5 (.cells #[.int .i64 E,.string G,.int .i64 I,.int .i64 J,.int .i64 L,.int .i64 M] 49);have c:=zaf aC.o (.cells #[.int .i64 E,.string G,.int .i64 I,.int .i64 J,.int .i64 L,.int .i64 M] 49);have d:=zad d.o (.cells #[.int .i64 E,.string G,.int .i64 I,.int .i64 J,.int .i64 L,.int .i64 M] 49);obtain ⟨u0,u1,u2,u3,u4,u5,g0,g1,g2,g3,g4,g5⟩:=zby c;obtain ⟨v0,v1,v2,v3,v4,v5,k0,k1,k2,k3,k4,k5⟩:=zby hT;cases ok
   ·rw [if_neg kad] at H;simp only [qai,qap] at H;obtain ⟨rfl,rfl,rfl,rfl,rfl,rfl,rfl,rfl⟩:=H;go_wp2;refine qaf (zbh rfl _ _ w.heap.size 49 _ (0,0) _ rfl (zcl c _ _ _ _ _ _) underlying49 rfl kae) rfl ⟨rfl,zbw d (qad _) _ _ _ _ _ _⟩
   rw [if_pos rfl] at H;simp only [qai,qap] at H;obtain ⟨rfl,rfl,rfl,rfl,rfl,rfl,rfl,rfl⟩:=H;go_wp2;refine qaf (zbh rfl _ _ w.heap.size 49 _ (0,0) _ rfl (zcl c _ _ _ _ _ _) underlying49 rfl kae) rfl ⟨rfl,zbw d (qad _) _ _ _ _ _ _⟩
  rw [if_pos rfl] at H;obtain ⟨n,j,H⟩:=hbd H;have l:=zq (fun w=>lychgateref08_run.calls k 2 a0 a1 n w j.o);have i:=zq H;clear j H;go_upto_region 15 with (go_at_call 84;refine (l.o _).mono ?_;rintro O Z ⟨rfl,hd⟩;have s:=zq (zgo hd r.o);have q:=zq (zff hd p.o);clear hd l);have H:=i.o;clear i;have c:=s.o;have d:=q.o;obtain ⟨u0,u1,u2,u3,u4,u5,g0,g1,g2,g3,g4,g5⟩:=zby c;by_cases a8:wrap64 (n-a1)>16
  ·rw [if_pos a8] at H;simp only [qai,qap] at H;obtain ⟨rfl,rfl,rfl,rfl,rfl,rfl,rfl,rfl⟩:=H;go_wp2;refine qaf (zbh rfl _ _ w.heap.size 49 _ (0,0) _ rfl (zcl c _ _ _ _ _ _) underlying49 rfl kae) rfl ⟨rfl,zbw d (qad _) _ _ _ _ _ _⟩
  rw [if_neg a8] at H;obtain ⟨y,H⟩:=hif H;obtain ⟨z,H⟩:=hif H;have c4:=qac y;have c5:=qac z;simp only [qai,qap] at H;obtain ⟨rfl,rfl,rfl,rfl,rfl,rfl,rfl,rfl⟩:=H;go_wp2;refine qaf (zbh rfl _ _ w.heap.size 49 _ (0,0) _ rfl (zcl c _ _ _ _ _ _) underlying49 rfl kae) rfl ⟨rfl,zbw d (qad _) _ _ _ _ _ _⟩
 rw [if_pos rfl] at H;obtain ⟨n,j,H⟩:=hbd H;obtain ⟨y,H⟩:=hif H;obtain ⟨z,H⟩:=hif H;have c4:=qac y;have c5:=qac z;obtain ⟨b,A5,H⟩:=hbd H;have l:=zq (fun w=>lychgateref08_run.calls k 1 a0 a1 n w j.o);have u:=zq (fun w=>lychgateref08_IsWord.calls k _ b w A5.o);have i:=zq H;clear j A5 H;go_upto_region 8 with (first
  | (go_at_call 84;refine (l.o _).mono ?_;rintro O Z ⟨rfl,hd⟩;have s:=zq (zgo hd r.o);have q:=zq (zff hd p.o);clear hd l)
  | (go_at_call 85;refine (u.o _).mono ?_;rintro e5 w5 ⟨rfl,m⟩;have c:=(m.block _ (zam s.o)).trans s.o;have d:=zbb q.o q.o.size m;clear m u))
 have H:=i.o;clear i;obtain ⟨u0,u1,u2,u3,u4,u5,g0,g1,g2,g3,g4,g5⟩:=zby c;cases b
 ·rw [if_neg kad] at H;by_cases aA:wrap64 (n-a1)>32
  ·rw [if_pos aA] at H;simp only [qai,qap] at H;obtain ⟨rfl,rfl,rfl,rfl,rfl,rfl,rfl,rfl⟩:=H;go_wp2;refine qaf (zbh rfl _ _ w.heap.size 49 _ (0,0) _ rfl (zcl c _ _ _ _ _ _) underlying49 rfl kae) rfl ⟨rfl,zbw d (qad _) _ _ _ _ _ _⟩
  rw [if_neg aA] at H;simp only [qai,qap] at H;obtain ⟨rfl,rfl,rfl,rfl,rfl,rfl,rfl,rfl⟩:=H;go_wp2;refine qaf (zbh rfl _ _ w.heap.size 49 _ (0,0) _ rfl (zcl c _ _ _ _ _ _) underlying49 rfl kae) rfl ⟨rfl,zbw d (qad _) _ _ _ _ _ _⟩
 rw [if_pos rfl] at H;simp only [qai,qap] at H;obtain ⟨rfl,rfl,rfl,rfl,rfl,rfl,rfl,rfl⟩:=H;go_wp2;refine qaf (zbh rfl _ _ w.heap.size 49 _ (0,0) _ rfl (zcl c _ _ _ _ _ _) underlying49 rfl kae) rfl ⟨rfl,zbw d (qad _) _ _ _ _ _ _⟩
end
section
attribute [local go_sem] zdv zdt zel zek zcz zcy zdu zds
mutual
def lychgateref08_Scan.l0:Nat->ByteArray->List (S49)->Int->Option ((List (S49))×Int×Int)
 | 0,_,_,_=>none
 | k+1,x0,x5,x6=>if x6<(x0.size:Int) then (if 0<=x6 then (if (bt x0 x6)=32 then (lychgateref08_Scan.j1 k x0 x5 x6 (bt x0 x6) ((bt x0 x6)==32)) else (if (bt x0 x6)=9 then (lychgateref08_Scan.j1 k x0 x5 x6 (bt x0 x6) ((bt x0 x6)==9)) else (if (bt x0 x6)=10 then (lychgateref08_Scan.j1 k x0 x5 x6 (bt x0 x6) ((bt x0 x6)==10)) else (lychgateref08_Scan.j1 k x0 x5 x6 (bt x0 x6) ((bt x0 x6)==13))))) else (none)) else (if x5.length<2513169434916 then (some ((x5++[(⟨8,(⟨#[]⟩:ByteArray),0,(⟨0,0⟩:S47),(x0.size:Int)⟩:S49)]),0,0)) else (none))
def lychgateref08_Scan.j1:Nat->ByteArray->List (S49)->Int->Int->Bool->Option ((List (S49))×Int×Int)
 | 0,_,_,_,_,_=>none
 | k+1,x0,x5,x6,x21,x22=>if x22=true then (lychgateref08_Scan.l0 k x0 x5 (wrap64 (x6+1))) else (if x21=35 then (lychgateref08_Scan.l1 k x0 x5 x6) else ((lychgateref08_one.f k x0 x6).bind fun bt349=>(if bt349.2.2.2.2.2.2.2=0 then (if x5.length<2513169434916 then (lychgateref08_Scan.l0 k x0 (x5++[(⟨bt349.1,bt349.2.1,bt349.2.2.1,(⟨bt349.2.2.2.1,bt349.2.2.2.2.1⟩:S47),x6⟩:S49)]) bt349.2.2.2.2.2.2.1) else (none)) else (some (([]:List (S49)),bt349.2.2.2.2.2.2.2,x6)))))
def lychgateref08_Scan.l1:Nat->ByteArray->List (S49)->Int->Option ((List (S49))×Int×Int)
 | 0,_,_,_=>none
 | k+1,x0,x5,x6=>if x6<(x0.size:Int) then (if 0<=x6 then (if (bt x0 x6)=10 then (lychgateref08_Scan.l0 k x0 x5 x6) else (lychgateref08_Scan.l1 k x0 x5 (wrap64 (x6+1)))) else (none)) else (lychgateref08_Scan.l0 k x0 x5 x6)
end
def lychgateref08_Scan.f (k:Nat) (a0:ByteArray):Option ((List (S49))×Int×Int):=if (a0.size:Int)>8000 then (some (([]:List (S49)),84,8000)) else (lychgateref08_Scan.l0 k a0 ([]:List (S49)) 0)
theorem lychgateref08_Scan.calls (k:Nat) (a0:ByteArray) (r1:List (S49)) (r2:Int) (r3:Int) (w:World) (h:lychgateref08_Scan.f k a0=some (r1,r2,r3)) :
  Calls prog 31 #[.string a0] w fun e w'=>∃ bd:Value,e = .returned (.tuple #[bd,.int .i64 r2,.int .i64 r3])/\Kd.R k49 49 w' w.heap.size (fun _=>True) bd r1/\Below w.heap.size w w':=by
 have cf:=underlying49;have HB:=zq (qan w.heap.size w);have H:(if (a0.size:Int)>8000 then (some (([]:List (S49)),84,8000)) else (lychgateref08_Scan.l0 k a0 ([]:List (S49)) 0))=some (r1,r2,r3):=h;clear h;by_cases c2:(a0.size:Int)>8000
 ·rw [if_pos c2] at H;have aG:decide (8000<(a0.size:Int))=true:=qac c2;have aH:decide (8000<a0.size)=true:=qac kab;clear c2;simp only [qai,qap] at H;obtain ⟨rfl,rfl,rfl⟩:=H;go_enter func31,ntmps31;go_wp2
  go_ret3
  exact ⟨_,by first|rfl|(simp [zap,zao]<;>rfl)|(simp [*,zap,zao]<;>rfl),by first|exact Kd.R_nil _ _ _ _ _|exact Kd.N_nil _ _ _ _ _|exact Kd.V_nil _ _ _ _ _|exact Kd.Q_nil _ _ _ _ _|exact Kd.S_nil _ _ _ _ _,kaa⟩
 rw [if_neg c2] at H;have aG:decide (8000<(a0.size:Int))=false:=qak c2;have aH:decide (8000<a0.size)=false:=qak kab;clear c2;have i:=zq H;clear H;go_enter func31,ntmps31;go_wp2;go_loopg [5,6] k (fun D v5 v6 w'=>∃ (m:List (S49)) (c:Int),v6 = .int .i64 c/\Zq (lychgateref08_Scan.l0 D a0 m c=some (r1,r2,r3))/\Zq (D<=k)/\Zq (Kd.R k49 49 w' w.heap.size (fun _=>True) v5 m)/\Zq (Below w.heap.size w w'));case atStart=>exact ⟨(([]:List (S49))),(0),kaf,i,⟨qad _⟩,⟨by first|exact Kd.R_nil _ _ _ _ _|exact Kd.N_nil _ _ _ _ _|exact Kd.V_nil _ _ _ _ _|exact Kd.Q_nil _ _ _ _ _|exact Kd.S_nil _ _ _ _ _⟩,⟨kaa⟩⟩
 case round=>
  clear i;try clear c2
  try clear aG
  try clear aH
  try clear p2
  obtain ⟨m,c,rfl,A,n,aq,HB⟩:=hrel;cases gk with
  | zero=>exact absurd A.o (by simp [lychgateref08_Scan.l0])
  | succ k1=>
   have H:=A.o;clear A;simp only [lychgateref08_Scan.l0] at H;by_cases c3:c<(a0.size:Int)
   ·rw [if_pos c3] at H;have aN:decide (c<(a0.size:Int))=true:=qac c3;clear c3;by_cases c4:0<=c
    ·rw [if_pos c4] at H;have bb:decide (0<=c)=true:=qac c4;clear c4;have aM:=zq H;clear H;have Y:0<=(c:Int):=kao;have Z:c<(a0.size:Int):=kao;have bc:=zcs a0 c;replace Y:=eq_true Y;replace Z:=eq_true Z
     go_upto_if 22 with (fail)
     go_cut [22] (fun b7 wc=>∃ (D:Nat) (aK:Bool),b7 = .bool aK/\Zq (lychgateref08_Scan.j1 D a0 m c (bt a0 c) aK=some (r1,r2,r3))/\Zq (D<=k1)/\Zq (Kd.R k49 49 wc w.heap.size (fun _=>True) u5 m)/\Zq (Below w.heap.size w wc))
     case first=>
      have H:=aM.o;clear aM;by_cases c7:(bt a0 c)=32
      ·rw [if_pos c7] at H;have L:((bt a0 c)==32)=true:=qar.mpr c7;have aQ:((bt a0 c)!=32)=false:=qaq.mpr c7;clear c7
       (first|rw [L]|(simp only [zjm,zpt];rw [L])|skip)
       have i:=zq H;clear H;go_wp2
       go_meet
       case rel=>exact ⟨_,(((bt a0 c)==32)),kaf,i,⟨by have:=n.o;first|omega|exact qad _⟩,⟨kaj⟩,⟨kaa⟩⟩
      rw [if_neg c7] at H;have L:((bt a0 c)==32)=false:=qah.mpr c7;have aQ:((bt a0 c)!=32)=true:=qbc.mpr c7
      (first|rw [L]|(simp only [zjm,zpt];rw [L])|skip)
      by_cases c8:(bt a0 c)=9
      ·rw [if_pos c8] at H;have aR:((bt a0 c)==9)=true:=qar.mpr c8;have aT:((bt a0 c)!=9)=false:=qaq.mpr c8;clear c8;have i:=zq H;clear H;go_wp2
       go_meet
       case rel=>exact ⟨_,(((bt a0 c)==9)),kaf,i,⟨by have:=n.o;first|omega|exact qad _⟩,⟨kaj⟩,⟨kaa⟩⟩
      rw [if_neg c8] at H;have aR:((bt a0 c)==9)=false:=qah.mpr c8;have aT:((bt a0 c)!=9)=true:=qbc.mpr c8;by_cases c9:(bt a0 c)=10
      ·rw [if_pos c9] at H;have aU:((bt a0 c)==10)=true:=qar.mpr c9;have aV:((bt a0 c)!=10)=false:=qaq.mpr c9;clear c9;have i:=zq H;clear H;go_wp2
       go_meet
       case rel=>exact ⟨_,(((bt a0 c)==10)),kaf,i,⟨by have:=n.o;first|omega|exact qad _⟩,⟨kaj⟩,⟨kaa⟩⟩
      rw [if_neg c9] at H;have aU:((bt a0 c)==10)=false:=qah.mpr c9;have aV:((bt a0 c)!=10)=true:=qbc.mpr c9;have i:=zq H;clear H;go_wp2
      go_meet
      case rel=>exact ⟨_,(((bt a0 c)==13)),kaf,i,⟨by have:=n.o;first|omega|exact qad _⟩,⟨kaj⟩,⟨kaa⟩⟩
     case rest=>
      clear aM;(try clear c2);(try clear aG);(try clear aH);(try clear p2);(try clear c3);(try clear aN);(try clear c4);(try clear bb);(try clear Y);(try clear Z);(try clear bc);(try clear c7);(try clear L);(try clear aQ);(try clear c8);(try clear aR);(try clear aT);(try clear c9);(try clear aU);(try clear aV);(try clear p2);(try clear Y);(try clear Z);obtain ⟨D,aK,rfl,A,B,aq,HB⟩:=hcut;cases D with
      | zero=>exact absurd A.o (by simp [lychgateref08_Scan.j1])
      | succ O=>
       have H:=A.o;clear A;simp only [lychgateref08_Scan.j1] at H;by_cases c10:aK=true
       ·subst c10;rw [if_pos rfl] at H;have i:=zq H;clear H;go_wp2
        go_roundg O
        case measure=>have:=n.o;have:=B.o;omega
        case rel=>exact ⟨(m),(wrap64 (c+1)),kaf,i,⟨by have:=n.o;have:=B.o;omega⟩,⟨kaj⟩,⟨kaa⟩⟩
       replace c10:=qbf.mpr c10;subst c10;rw [if_neg (show ¬(false=true) by decide)] at H;by_cases E:(bt a0 c)=35
       ·rw [if_pos E] at H;have aZ:((bt a0 c)==35)=true:=qar.mpr E;have ba:((bt a0 c)!=35)=false:=qaq.mpr E;clear E;have i:=zq H;clear H;go_wp2;go_loopg [6] O (fun D v6 w'=>∃ (j:Int),v6 = .int .i64 j/\Zq (lychgateref08_Scan.l1 D a0 m j=some (r1,r2,r3))/\Zq (D<=O)/\Zq (Kd.R k49 49 w' w.heap.size (fun _=>True) u5 m)/\Zq (Below w.heap.size w w'));case atStart=>exact ⟨(c),kaf,i,⟨qad _⟩,⟨kaj⟩,⟨kaa⟩⟩
        case round=>
         clear i;(try clear c1);(try clear c2);(try clear aG);(try clear aH);(try clear p2);(try clear c3);(try clear aN);(try clear c4);(try clear bb);(try clear Y);(try clear Z);(try clear bc);(try clear p6);(try clear c7);(try clear L);(try clear aQ);(try clear c8);(try clear aR);(try clear aT);(try clear c9);(try clear aU);(try clear aV);(try clear c10);(try clear E);(try clear aZ);(try clear ba);(try clear p2);(try clear Y);(try clear Z);obtain ⟨j,rfl,A,W,aq,HB⟩:=hrel;cases gk with
         | zero=>exact absurd A.o (by simp [lychgateref08_Scan.l1])
         | succ k3=>
          have H:=A.o;clear A;simp only [lychgateref08_Scan.l1] at H;by_cases c12:j<(a0.size:Int)
          ·rw [if_pos c12] at H;have b0:decide (j<(a0.size:Int))=true:=qac c12;clear c12;by_cases aC:0<=j
           ·rw [if_pos aC] at H;have bA:decide (0<=j)=true:=qac aC;clear aC;by_cases I:(bt a0 j)=10
            ·rw [if_pos I] at H;have b1:((bt a0 j)==10)=true:=qar.mpr I;have b2:((bt a0 j)!=10)=false:=qaq.mpr I;clear I;have i:=zq H;clear H;have a8:0<=(j:Int):=kao;have aA:j<(a0.size:Int):=kao;have b6:=zcs a0 j;replace a8:=eq_true a8;replace aA:=eq_true aA;go_wp2
             go_roundg k3
             case measure=>have:=n.o;have:=B.o;have:=W.o;omega
             case rel=>exact ⟨(m),(j),kaf,i,⟨by have:=n.o;have:=B.o;have:=W.o;omega⟩,⟨kaj⟩,⟨kaa⟩⟩
            rw [if_neg I] at H;have b1:((bt a0 j)==10)=false:=qah.mpr I;have b2:((bt a0 j)!=10)=true:=qbc.mpr I;have i:=zq H;clear H;have a8:0<=(j:Int):=kao;have aA:j<(a0.size:Int):=kao;have b6:=zcs a0 j;replace a8:=eq_true a8;replace aA:=eq_true aA;go_wp2
            go_roundg k3
            case measure=>have:=n.o;have:=B.o;have:=W.o;omega
            case rel=>exact ⟨(wrap64 (j+1)),kaf,i,⟨by have:=n.o;have:=B.o;have:=W.o;omega⟩,⟨kaj⟩,⟨kaa⟩⟩
           rw [if_neg aC] at H;exact absurd H (by simp)
          rw [if_neg c12] at H;have b0:decide (j<(a0.size:Int))=false:=qak c12;clear c12;have i:=zq H;clear H;go_wp2
          go_roundg k3
          case measure=>have:=n.o;have:=B.o;have:=W.o;omega
          case rel=>exact ⟨(m),(j),kaf,i,⟨by have:=n.o;have:=B.o;have:=W.o;omega⟩,⟨kaj⟩,⟨kaa⟩⟩
       rw [if_neg E] at H;have aZ:((bt a0 c)==35)=false:=qah.mpr E;have ba:((bt a0 c)!=35)=true:=qbc.mpr E;obtain ⟨⟨q,r,s,u,x,ad,aI,U⟩,aY,H⟩:=kbd H;(try dsimp only at H);by_cases J:U=0
       ·rw [if_pos J] at H;have b3:(U==0)=true:=qar.mpr J;have b4:(U !=0)=false:=qaq.mpr J;clear J;by_cases aD:m.length<2513169434916
        ·rw [if_pos aD] at H;have bv:=zq aD;clear aD;obtain ⟨bk,a7⟩:∃ y_:List (S49),y_=(m++[(⟨q,r,s,(⟨u,x⟩:S47),c⟩:S49)]):=⟨_,rfl⟩;replace H:(lychgateref08_Scan.l0 O a0 bk aI)=some (r1,r2,r3):=(by first|(rw [a7];with_reducible exact H)|(have G:=(qam _ _).symm.trans H;rw [a7];with_reducible exact G)|(have G:=(qam _ _).symm.trans H;with_reducible exact G)|with_reducible exact H|(rw [a7];exact H)|exact H);have bz:=zq a7;clear a7;have i:=zq H;clear H;go_upto_region 20 with (first|((with_reducible refine zar (f:=55) rfl ?_);refine zbs (some 46) rfl rfl func55 kae rfl #[.string a0,.int .i64 c] rfl kac ?_;(with_reducible refine (lychgateref08_one.calls O a0 c q r s u x ad aI U _ aY.o).mono ?_);rintro e ci ⟨rfl,l⟩;refine ⟨_,rfl,?_⟩;replace aq:=zq (Kd.R_below kaj l);replace HB:=zq (zau kaa l);(try clear l);(try clear b5);(try clear hk);(try clear hi))|((with_reducible refine zcf (N:=8) rfl ?_);refine zcb ?hg (N:=8) ?hd (cs:=#[.int .i64 0,.string (⟨#[]⟩:ByteArray),.int .i64 0,.int .i64 0,.int .i64 0,.int .i64 0]) (t:=49) ?hr ?_;(case hd=>rfl);(case hg=>rfl);(case hr=>first|(go_simp;done)|(go_simp;rfl));intro d hg aJ a1 l;have af:=zq a1;have y:=zq (kge hg (zat kaa):w.heap.size<=d);replace aq:=zq (Kd.R_below (Kd.R_elderB kaj d (Nat.le_of_eq hg.symm)) l);replace HB:=zq (zau kaa l);clear l a1 hg;obtain ⟨bH,bI,bJ,bK,bL,bM,bT,bU,bV,bW,bX,bY⟩:=zby af.o));have z:(((((((aJ.setCell ⟨d,0,none⟩ (.int .i64 q)).setCell ⟨d,1,none⟩ (.string r)).setCell ⟨d,2,none⟩ (.int .i64 s)).setCell ⟨d,3,none⟩ (.int .i64 u)).setCell ⟨d,4,none⟩ (.int .i64 x)).setCell ⟨d,5,none⟩ (.int .i64 ad)).setCell ⟨d,5,none⟩ (.int .i64 c)).heap[d]?=some (.cells #[.int .i64 q,.string r,.int .i64 s,.int .i64 u,.int .i64 x,.int .i64 c] 49 (0,0)):=zan (zan (zan (zan (zan (zan (zan (af.o) 0 _ rfl) 1 _ rfl) 2 _ rfl) 3 _ rfl) 4 _ rfl) 5 _ rfl) 5 _ rfl;have X:Kd.R k49 49 (((((((aJ.setCell ⟨d,0,none⟩ (.int .i64 q)).setCell ⟨d,1,none⟩ (.string r)).setCell ⟨d,2,none⟩ (.int .i64 s)).setCell ⟨d,3,none⟩ (.int .i64 u)).setCell ⟨d,4,none⟩ (.int .i64 x)).setCell ⟨d,5,none⟩ (.int .i64 ad)).setCell ⟨d,5,none⟩ (.int .i64 c)) w.heap.size (fun k_=>True/\k_≠d) u5 m:=Kd.R_far (p:=⟨d,5,none⟩) (Kd.R_far (p:=⟨d,5,none⟩) (Kd.R_far (p:=⟨d,4,none⟩) (Kd.R_far (p:=⟨d,3,none⟩) (Kd.R_far (p:=⟨d,2,none⟩) (Kd.R_far (p:=⟨d,1,none⟩) (Kd.R_far (p:=⟨d,0,none⟩) (aq.o) (fun _ hk=>hk.2) _) (fun _ hk=>hk.2) _) (fun _ hk=>hk.2) _) (fun _ hk=>hk.2) _) (fun _ hk=>hk.2) _) (fun _ hk=>hk.2) _) (fun _ hk=>hk.2) _;have aX:Below w.heap.size w (((((((aJ.setCell ⟨d,0,none⟩ (.int .i64 q)).setCell ⟨d,1,none⟩ (.string r)).setCell ⟨d,2,none⟩ (.int .i64 s)).setCell ⟨d,3,none⟩ (.int .i64 u)).setCell ⟨d,4,none⟩ (.int .i64 x)).setCell ⟨d,5,none⟩ (.int .i64 ad)).setCell ⟨d,5,none⟩ (.int .i64 c)):=zaj (zaj (zaj (zaj (zaj (zaj (zaj (HB.o) y.o) y.o) y.o) y.o) y.o) y.o) y.o;generalize ((((((aJ.setCell ⟨d,0,none⟩ (.int .i64 q)).setCell ⟨d,1,none⟩ (.string r)).setCell ⟨d,2,none⟩ (.int .i64 s)).setCell ⟨d,3,none⟩ (.int .i64 u)).setCell ⟨d,4,none⟩ (.int .i64 x)).setCell ⟨d,5,none⟩ (.int .i64 ad)).setCell ⟨d,5,none⟩ (.int .i64 c)=W2 at z X aX ⊢;have bp:=zq z;have bq:=zq X;have aj:=zq aX;have b9:W2.cell? ⟨d,0,none⟩=some (.int .i64 q):=zab z 0;have bB:W2.cell? ⟨d,1,none⟩=some (.string r):=zab z 1;have bD:W2.cell? ⟨d,2,none⟩=some (.int .i64 s):=zab z 2;have bE:W2.cell? ⟨d,3,none⟩=some (.int .i64 u):=zab z 3;have bF:W2.cell? ⟨d,4,none⟩=some (.int .i64 x):=zab z 4;have bG:W2.cell? ⟨d,5,none⟩=some (.int .i64 c):=zab z 5;clear z X aX HB af aq;go_wp2_with (((with_reducible refine zas (b := .append) (xs:=#[.tmp 56,.tmp 58]) rfl ?_);at_builtin;refine Kd.R_append k49 (w0:=w) w.heap.size rfl (.tmp 56) (.tmp 58) 43 49 (.agg #[(.int .i64 0),(.string ⟨#[]⟩),(.int .i64 0),(.int .i64 0),(.int .i64 0),(.int .i64 0)]) 56 rfl underlying43 zrx rfl kad kab u5 m (⟨q,r,s,(⟨u,x⟩:S47),c⟩:S49) [.int .i64 q,.string r,.int .i64 s,.int .i64 u,.int .i64 x,.int .i64 c] (fun k_=>k_≠d) (fun _=>False) rfl (by first|(go_simp;done)|(go_simp;rfl)) ?aP (fun _ hk=>hk.elim) ?aF ?aO ?aB ?aS ?aL ?_;(case aP=>exact zok _ _ _ (⟨q,r,s,(⟨u,x⟩:S47),c⟩:S49));(case aB=>exact (by repeat (first|(with_reducible first|exact aj.o|apply zad|apply zaa|apply zae|refine zaj ?_ y.o)|exact aj.o)));(case aF=>exact (fun k_ hk=>Kd.freshB (g:=d) (o := .cells #[.int .i64 q,.string r,.int .i64 s,.int .i64 u,.int .i64 x,.int .i64 c] 49 (0,0)) (by (with_reducible repeat (first|refine zah ?_ _|refine zak ?_|refine zaf ?_ _));exact bp.o) k_ hk));(case aO=>exact (by (with_reducible repeat (first|apply Kd.R_alloc|apply Kd.R_drewN|apply Kd.R_drew));exact Kd.R_mono bq.o (fun _ hk=>hk.2)));(case aS=>exact (zat (by repeat (first|(with_reducible first|exact aj.o|apply zad|apply zaa|apply zae|refine zaj ?_ y.o)|exact aj.o))));(case aL=>have:=bv.o;omega);intro ch cj M l hg aW;rw [<-bz.o] at M;have HB:=zq l;have bu:=zq M;clear M l hg aW))
         go_roundg O
         case measure=>have:=n.o;have:=B.o;omega
         case rel=>exact ⟨(bk),(aI),kaf,i,⟨by have:=n.o;have:=B.o;omega⟩,⟨by (with_reducible repeat (first|apply Kd.R_alloc|apply Kd.R_drewN|apply Kd.R_drew));exact Kd.R_mono bu.o (fun _ hk=>trivial)⟩,⟨by repeat (first|(with_reducible first|exact HB.o|apply zad|apply zaa|apply zae|refine zaj ?_ y.o)|exact HB.o)⟩⟩
        rw [if_neg aD] at H;exact absurd H (by simp)
       rw [if_neg J] at H;have b3:(U==0)=false:=qah.mpr J;have b4:(U !=0)=true:=qbc.mpr J;simp only [qai,qap] at H;obtain ⟨rfl,rfl,rfl⟩:=H;go_wp2_with (first|((with_reducible refine zar (f:=55) rfl ?_);refine zbs (some 46) rfl rfl func55 kae rfl #[.string a0,.int .i64 c] rfl kac ?_;(with_reducible refine (lychgateref08_one.calls O a0 c q r s u x ad aI U _ aY.o).mono ?_);rintro e ck ⟨rfl,l⟩;refine ⟨_,rfl,?_⟩;replace aq:=zq (Kd.R_below kaj l);replace HB:=zq (zau kaa l);(try clear l);(try clear b5);(try clear hk);(try clear hi))|((with_reducible refine zcf (N:=8) rfl ?_);refine zcb ?hg (N:=8) ?hd (cs:=#[.int .i64 0,.string (⟨#[]⟩:ByteArray),.int .i64 0,.int .i64 0,.int .i64 0,.int .i64 0]) (t:=49) ?hr ?_;(case hd=>rfl);(case hg=>rfl);(case hr=>first|(go_simp;done)|(go_simp;rfl));intro d hg cl a1 l;have af:=zq a1;have y:=zq (kge hg (zat kaa):w.heap.size<=d);replace aq:=zq (Kd.R_below (Kd.R_elderB kaj d (Nat.le_of_eq hg.symm)) l);replace HB:=zq (zau kaa l);clear l a1 hg;obtain ⟨bN,bO,bP,bQ,bR,bS,bZ,ca,cb,cc,cd,ce⟩:=zby af.o))
       go_ret3
       exact ⟨_,by first|rfl|(simp [zap,zao]<;>rfl)|(simp [*,zap,zao]<;>rfl),by first|exact Kd.R_nil _ _ _ _ _|exact Kd.N_nil _ _ _ _ _|exact Kd.V_nil _ _ _ _ _|exact Kd.Q_nil _ _ _ _ _|exact Kd.S_nil _ _ _ _ _,by repeat (first|(with_reducible first|exact HB.o|apply zad|apply zaa|apply zae|refine zaj ?_ y.o)|exact HB.o)⟩
    rw [if_neg c4] at H;exact absurd H (by simp)
   rw [if_neg c3] at H;have aN:decide (c<(a0.size:Int))=false:=qak c3;clear c3;by_cases aE:m.length<2513169434916
   ·rw [if_pos aE] at H;have bw:=zq aE;clear aE;obtain ⟨b8,a6⟩:∃ y_:List (S49),y_=(m++[(⟨8,(⟨#[]⟩:ByteArray),0,(⟨0,0⟩:S47),(a0.size:Int)⟩:S49)]):=⟨_,rfl⟩;replace H:(some (b8,0,0))=some (r1,r2,r3):=(by first|(rw [a6];with_reducible exact H)|(have G:=(qam _ _).symm.trans H;rw [a6];with_reducible exact G)|(have G:=(qam _ _).symm.trans H;with_reducible exact G)|with_reducible exact H|(rw [a6];exact H)|exact H);have bx:=zq a6;clear a6;simp only [qai,qap] at H;obtain ⟨rfl,rfl,rfl⟩:=H;go_wp2_with (first|((with_reducible refine zas (b := .append) (xs:=#[.tmp 61,.tmp 65]) rfl ?_);at_builtin;refine Kd.R_append k49 (w0:=w) w.heap.size rfl (.tmp 61) (.tmp 65) 43 49 (.agg #[(.int .i64 0),(.string ⟨#[]⟩),(.int .i64 0),(.int .i64 0),(.int .i64 0),(.int .i64 0)]) 56 rfl underlying43 zrx rfl kad kab u5 m (⟨8,(⟨#[]⟩:ByteArray),0,(⟨0,0⟩:S47),(a0.size:Int)⟩:S49) [.int .i64 8,.string (⟨#[]⟩:ByteArray),.int .i64 0,.int .i64 0,.int .i64 0,.int .i64 (a0.size:Int)] (fun _=>True) (fun _=>False) rfl rfl ?aP (fun _ hk=>hk.elim) ?aF ?aO ?aB ?aS ?aL ?_;(case aP=>exact zok _ _ _ (⟨8,(⟨#[]⟩:ByteArray),0,(⟨0,0⟩:S47),(a0.size:Int)⟩:S49));(case aB=>exact kaa);(case aF=>exact (fun _ _=>trivial));(case aO=>exact kaj);(case aS=>exact (zat kaa));(case aL=>have:=bw.o;omega);intro cg cm M l hg aW;rw [<-bx.o] at M;have z:=zq l;have X:=zq M;clear HB;clear aq;have HB:=z;have br:=X;clear z X;clear M l hg aW))
    go_ret3
    exact ⟨_,by first|rfl|(simp [zap,zao]<;>rfl)|(simp [*,zap,zao]<;>rfl),by (with_reducible repeat (first|apply Kd.R_alloc|apply Kd.R_drewN|apply Kd.R_drew));exact br.o,kaa⟩
   rw [if_neg aE] at H;exact absurd H (by simp)
end
section
attribute [local go_sem] zdv zdt zel zek zcz zcy zdu zds
def lychgatelaw09_mark.f (a0:Int):Option (ByteArray):=(some (([(a0)%256,(a0/256)%256,(a0/65536)%256]:List Int):List Int)).bind fun b=>(if 1+(strOfNums b).size<=9223372036854775807 then (some ((⟨#[109]⟩:ByteArray)++(strOfNums b))) else (none))
theorem lychgatelaw09_mark.calls (a0:Int) (r:ByteArray) (w:World) (h:lychgatelaw09_mark.f a0=some r) :
  Calls prog 38 #[.int .i64 a0] w fun e w'=>e = .returned (.string r)/\Below w.heap.size w w':=by
 have HB:=zq (qan w.heap.size w);have H:((some (([(a0)%256,(a0/256)%256,(a0/65536)%256]:List Int):List Int)).bind fun b=>(if 1+(strOfNums b).size<=9223372036854775807 then (some ((⟨#[109]⟩:ByteArray)++(strOfNums b))) else (none)))=some r:=h;clear h;obtain ⟨b,d⟩:∃ p:List Int,p=(([(a0)%256,(a0/256)%256,(a0/65536)%256]:List Int)):=⟨_,rfl⟩;replace H:(if 1+(strOfNums b).size<=9223372036854775807 then (some ((⟨#[109]⟩:ByteArray)++(strOfNums b))) else (none))=some r:=by first|(rw [d];with_reducible exact H)|(have i:=(qam _ _).symm.trans H;rw [d];with_reducible exact i)|(have i:=(qam _ _).symm.trans H;with_reducible exact i)|with_reducible exact H|(rw [d];exact H)|exact H
 have j:=zq d;clear d;by_cases c2:1+(strOfNums b).size<=9223372036854775807
 ·rw [if_pos c2] at H;have q:=eq_true c2;have s:decide (1+(strOfNums b).size<=9223372036854775807)=true:=qac c2;try have u:(9223372036854775807<1+(strOfNums b).size)=False:=eq_false (Nat.not_lt.2 c2)
  obtain rfl:=qaa H;go_enter func38,ntmps38;go_wp2_with (first|((with_reducible refine zcf (N:=11) rfl ?_);refine Kd.R_lit (Kd.int .u8) _ 5 ?hg (N:=11) ?hd (xs:=([(a0)%256,(a0/256)%256,(a0/65536)%256]:List Int)) (inner:=[.int .u8 ((a0)%256),.int .u8 ((a0/256)%256),.int .u8 ((a0/65536)%256)]) (ok:=fun _=>True) (okp:=fun _=>True) ?hr ?hp (fun _ hk=>hk) trivial (qan _ _) (qad _) (by simp) ?_;(case hd=>rfl);(case hg=>rfl);(case hr=>first|(go_simp;done)|(go_simp;rfl));(case hp=>exact (Reps.one (show Kd.M (Kd.int .u8) _ _ _ ((a0)%256) [.int .u8 ((a0)%256)] from rfl) (Reps.one (show Kd.M (Kd.int .u8) _ _ _ ((a0/256)%256) [.int .u8 ((a0/256)%256)] from rfl) (Reps.one (show Kd.M (Kd.int .u8) _ _ _ ((a0/65536)%256) [.int .u8 ((a0/65536)%256)] from rfl) (Reps.none _ _)))));intro y z c k m n;clear m n;(first|rw [<-j.o] at c|(simp only [Int.reduceToNat] at c;rw [<-j.o] at c));have l:=zq (Kd.R_lower c (zat kaa));replace HB:=zq (zau kaa k);clear k c;have x:=zjv (P:=prog) underlying64 underlying5 underlying9 (Kd.own_of_R l.o)));go_ret;exact ⟨by first|rfl|(simp [zap,zao]<;>rfl)|(simp [*,zap,zao]<;>rfl),kaa⟩
 rw [if_neg c2] at H;exact absurd H (by simp)
end
end Go.Proofs.YtjeekocidaogoaaGreatDoor.H
namespace Go.Proofs.YtjeekocidaogoaaGreatDoor.Hand
open Go.RowKit Go.Proofs.YtjeekocidaogoaaGreatDoorW.PrintWords
section
section
variable {H:Type} {enc:TypeId×Value->H}
theorem handed_shaped {a:Assume} {C:Checked} {os:Os} {f:FuncId} {fn:Func} {s:ChangeSpec} {conds:List PathCond} {apart fresh handsOn again:Bool} {X:World->Array Value->Prop}
  (k:∀ (w w':World) (args:Array Value),w.heap=w'.heap->X w args->X w' args)
  (own:ownKnob C.prog.godebug=none) (started:os.Started) (B:C.prog.inits.idxOf? f=none) (n:C.prog.funcs[f]?=some fn)
  (witness:∃ (w:World) (tape:Tape) (i:Input),w.os=os/\(w.forCall tape i).Shaped C.prog/\i.vars=[]/\Input.okWide C.prog (w.forCall tape i) .any w.heap.size f i /\
   ((s.pre enc C.prog fn conds apart (w.forCall tape i).memory i.args/\X (w.forCall tape i).memory i.args)/\sizedMet enc C.prog fn (OpenSpec.ofChange s) apart (w.forCall tape i).memory i.args)/\a.holds C.prog (lone (Frame.enter C.prog f i.args .normal) [] (w.forCall tape i)))
  (c:∀ (W:World) (base:Nat) (args:Array Value) (ds gs:List (DataW H)) (before:List MemPlace),
   (∀ (j:Nat) t v,fn.params[j]?=some t->args[j]?=some v->Value.okWide C.prog W .any base t v) ->
   DataW.Whole enc C.prog fn.params.toList s.vars apart W args.toList ds gs before ->
   conds.all (PathCond.test C.prog ⟨fn.params.toList,ds,s.plain.varTypes C.prog,gs⟩)=true ->
   (DataW.weightsEach C.prog (fn.params.toList++s.plain.varTypes C.prog) (ds++gs)).all (·<=reachBytes)=true->X W args->W.ShapedOpen C.prog ->
   a.holds C.prog (lone (Frame.enter C.prog f args .normal) [] W) ->
   Calls C.prog f args W fun e W'=>∃ v,e = .returned v/\s.post enc C.prog fn apart fresh handsOn again W args v W') :
  ReturnsInHanded a C os f .any (fun w args=>(s.pre enc C.prog fn conds apart w args/\X w args)/\sizedMet enc C.prog fn (OpenSpec.ofChange s) apart w args) (s.post enc C.prog fn apart fresh handsOn again):=by
 refine returnsInHanded_of_calls own started B witness ?_;intro w tape i _ u _ q r p;obtain ⟨_,_,_,d,o,_,_,_,_,x⟩:=q;have e:d=fn:=qaa (o.symm.trans n);subst e;obtain ⟨⟨⟨ds,gs,before,b,l⟩,z⟩,A⟩:=r;have y:=DataW.Whole.of_heap (w':=w.forCall tape i) (by rfl) b;refine (c (w.forCall tape i) w.heap.size i.args ds gs before x y l (A.weights b) (k _ _ _ (by rfl) z) u p).mono fun e W' ⟨v,m,hp⟩=>?_;subst m;exact ChangeSpec.post_blind hp
end
abbrev zoi:List (String×DataW Unit):=[("math/bits.deBruijn32tab", Rows.laid_math_bits_deBruijn32tab),("math/bits.deBruijn64tab", Rows.laid_math_bits_deBruijn64tab),("internal/strconv.uint64pow10", Rows.laid_internal_strconv_uint64pow10),("unicode/utf8.acceptRanges", Rows.laid_unicode_utf8_acceptRanges),("strconv.ErrRange", Rows.laid_strconv_ErrRange),("strconv.ErrSyntax", Rows.laid_strconv_ErrSyntax),("unicode.White_Space", Rows.laid_unicode_White_Space),("strings.asciiSpace", Rows.laid_strings_asciiSpace),("unicode/utf8.first", Rows.laid_unicode_utf8_first)]
theorem zvl:("*errors.errorString" : String) = "*" ++ "errors.errorString" := by decide
theorem zsu (u:TypeId) (h:prog.typeName? 3 u=some "*errors.errorString"):u=234:=
 typeName_ptr_named (nm := "errors.errorString") (by rw [<-zvl];kernel_rfl) kae kad u (by rw [<-zvl];exact h)
theorem zup {W:World} {name:String} {k:IntKind} {b:List Int} {g:Nat} {t e:TypeId} {n:Nat} {d:DataW Unit}
  (hg:prog.globalNamed name=some g) (q:(prog.globals[g]?).map (·.type)=some t) (ht:prog.underlying t=some (.array n e)) (j:prog.underlying e=some (.int k)) (c:prog.cellsOf e=1) (i:prog.cellsOf t=n)
  (hd:d=Lib.tabData k b) (h:laidMet prog zoi W) (m:(name,d)∈zoi):Lib.TabIs prog W name k b:=by
 obtain ⟨u,w,cs,s,p,l,o,r,hr⟩:=Lib.laidMet.reads h m;obtain rfl:=qaa (hg.symm.trans l);obtain rfl:=qaa (q.symm.trans o);subst hd;unfold Lib.TabIs;rw [r,<-Lib.cells_of_tab ht j c i hr]
theorem inv_of_laid {W:World} (h:laidMet prog zoi W) (c:W.ShapedOpen prog):Inv W where
 space:=zup (g:=0) kae kae (t:=155) (n:=256) kae (e:=5) kae kae kae (d:=Rows.laid_strings_asciiSpace) kae h (by simp [zoi])
 pow10:=zup (g:=5) kae kae (t:=238) (n:=20) kae (e:=212) kae kae kae (d:=Rows.laid_internal_strconv_uint64pow10) kae h (by simp [zoi])
 errR:=by
  obtain ⟨a,s,b,_⟩:=laid_sentinel (g:=4) h.tail.tail.tail.tail kae kae (ti:=139) underlying139 zsu kae (te:=236) underlying236 rfl rfl (ts:=9) kae kae kae;exact ⟨_,_,b⟩
 errS:=by
  obtain ⟨a,s,b,_⟩:=laid_sentinel (g:=3) h.tail.tail.tail.tail.tail kae kae (ti:=139) underlying139 zsu kae (te:=236) underlying236 rfl rfl (ts:=9) kae kae kae;exact ⟨_,_,b⟩
 maxLen:=Tryz.laysM145.s1_3 W c
end
end Go.Proofs.YtjeekocidaogoaaGreatDoor.Hand
namespace Go.Proofs.YtjeekocidaogoaaGreatDoor.H
open Go.Proofs.YtjeekocidaogoaaGreatDoorW.PrintWords
section
def digB (b:UInt8):Bool:=decide (48<=b.toNat/\b.toNat<=57)
def valD (a:Nat) (l:List UInt8):Nat:=l.foldl (fun a b=>10*a+(b.toNat-48)) a
def can (l:List UInt8):Prop:=l≠[]/\l.all digB=true/\(l.length=1\/l.head?.map (·.toNat)≠some 48)
instance (l:List UInt8):Decidable (can l):=by unfold can;infer_instance
theorem zja (a:Nat):valD a []=a:=rfl
theorem zgi (a:Nat) (b:UInt8) (r:List UInt8):valD a (b::r)=valD (10*a+(b.toNat-48)) r:=List.foldl_cons ..
theorem zre (a:Nat) (b:UInt8):valD a [b]=10*a+(b.toNat-48):=by rw [zgi,zja]
theorem zrz (a b:List UInt8) (h:a≠[]):(a++b).head?=a.head?:=by
 cases a with
 | nil=>exact absurd rfl h
 | cons x a=>rfl
theorem snoc_of (l:List UInt8) (h:l≠[]):∃ m b,l=m++[b]:=⟨l.dropLast,l.getLast h,(List.dropLast_concat_getLast h).symm⟩
theorem ztz (b:UInt8) (h:[b].all digB=true):48<=b.toNat/\b.toNat<=57:=by
 rw [List.all_cons,List.all_nil,Bool.and_true] at h;exact qbo h
theorem ztp (b:UInt8) (h:48<=b.toNat/\b.toNat<=57):[b].all digB=true:=by
 rw [List.all_cons,List.all_nil,Bool.and_true];exact qac h
theorem zlg:∀ (l:List UInt8) (a:Nat) (b:UInt8),valD a (l++[b])=10*valD a l+(b.toNat-48)
 | [],_,_=>rfl
 | _::r,_,b=>zlg r _ b
theorem zqm:∀ (l:List UInt8) (a:Nat),a*10 ^ l.length<=valD a l
 | [],a=>by rw [List.length_nil,zja,Nat.pow_zero,Nat.mul_one];exact qad _
 | b::r,a=>by
  have h:=zqm r (10*a+(b.toNat-48));rw [zgi];refine qas ?_ h;rw [qbe,Nat.pow_succ,Nat.mul_comm (10 ^ r.length) 10,<-Nat.mul_assoc];exact qbp _ kab
theorem valD_mono (l:List UInt8) (a:Nat):a<=valD a l:=by
 have h:=zqm l a;have:1<=10 ^ l.length:=Nat.pow_pos kad;exact qas (by simpa using Nat.mul_le_mul_left a this) h
theorem zts (l:List UInt8) (h:can l):l.length=1\/10 ^ (l.length-1)<=valD 0 l:=by
 obtain ⟨h1,d,c⟩:=h;rcases c with c|c
 ·exact .inl c
 match l with
 | b::r=>
  refine .inr ?_;rw [List.all_cons,qbj] at d;have i:=qbo d.1;have j:b.toNat≠48:=fun e=>c (by simp [e]);rw [zgi,qbe,Nat.add_sub_cancel];have h:=zqm r (10*0+(b.toNat-48));exact qas (by simpa using qbp (10 ^ r.length) (show 1<=10*0+(b.toNat-48) by omega)) h
theorem ztt (n:Nat) (h:n<256):(UInt8.ofNat n).toNat=n:=kbl
theorem zqe (b:UInt8) (h:48<=b.toNat):UInt8.ofNat (48+(b.toNat-48))=b:=by
 rw [show 48+(b.toNat-48)=b.toNat by omega];simp
theorem dec_can (u:Nat):can (Lib.decDigits u)/\valD 0 (Lib.decDigits u)=u/\(u≠0->(Lib.decDigits u).head?.map (·.toNat)≠some 48):=by
 induction u using Nat.strongRecOn with
 | _ u d=>
  rw [Lib.decDigits];by_cases h:u<10
  ·rw [dif_pos h];have b:=ztt (48+u) kab;refine ⟨⟨by simp,?_,.inl rfl⟩,?_,fun k=>?_⟩
   ·exact ztp _ kab
   ·rw [zre];omega
   rw [List.head?_cons,Option.map_some,b];intro e;have:=qaa e;omega
  rw [dif_neg h];obtain ⟨⟨i1,i2,i3⟩,j,i⟩:=d (u/10) kab;have b:=ztt (48+u%10) kab;have c:(Lib.decDigits (u/10)++[UInt8.ofNat (48+u%10)]).head?.map (·.toNat)≠some 48:=by
   rw [zrz _ _ i1];exact i kab
  refine ⟨⟨by simp,?_,.inr c⟩,?_,fun _=>c⟩
  ·rw [List.all_append,i2,Bool.true_and];exact ztp _ kab
  rw [zlg,j,b];omega
theorem can_dec:∀ (n:Nat) (l:List UInt8),l.length=n->can l->Lib.decDigits (valD 0 l)=l:=by
 intro n;induction n with
 | zero=>
  intro l k h;exact absurd (List.length_eq_zero_iff.1 k) h.1
 | succ n s=>
  intro l k h;obtain ⟨h1,i,d⟩:=h;obtain ⟨m,b,rfl⟩:∃ m b,l=m++[b]:=snoc_of l h1;rw [List.all_append,qbj] at i;have p:=ztz b i.2;have r:m.length=n:=by simpa using k
  rw [zlg];by_cases hn:m=[]
  ·subst hn;rw [zja,Nat.mul_zero,Nat.zero_add,Lib.decDigits,dif_pos kab,zqe b p.1];rfl
  have q:m.head?.map (·.toNat)≠some 48:=by
   rcases d with d|d
   ·rw [qal] at d;have:m.length≠0:=fun e=>hn (List.length_eq_zero_iff.1 e);simp at d;exact absurd d hn
   rwa [zrz _ _ hn] at d
  have j:can m:=⟨hn,i.1,.inr q⟩;have u:1<=valD 0 m:=by
   rcases zts m j with o|o
   ·obtain ⟨c,rfl⟩:=List.length_eq_one_iff.1 o;have j:=ztz c i.1;have:c.toNat≠48:=fun e=>q (by rw [List.head?_cons,Option.map_some,e]);rw [zre];omega
   exact qas (Nat.pow_pos kad) o
  rw [Lib.decDigits,dif_neg kab,show (10*valD 0 m+(b.toNat-48))/10=valD 0 m by omega,show (10*valD 0 m+(b.toNat-48))%10=b.toNat-48 by omega,s m r j,zqe b p.1]
theorem zpn:∀ (l:List UInt8) (a:Nat),l.all digB=true->valD a l<18446744073709551616->Lib.parseUint10 a l = .ok (valD a l)
 | [],a,_,_=>rfl
 | c::r,a,h,b=>by
  rw [List.all_cons,qbj] at h;have d:=qbo h.1;rw [zgi] at b ⊢;have e:=valD_mono r (10*a+(c.toNat-48));simp only [Lib.parseUint10];rw [if_pos d,if_neg kab,if_neg kab,Nat.mul_comm a 10];exact zpn r _ h.2 b
theorem zsf (l:List UInt8) (h:l≠[]) (hd:l.all digB=true) (d:valD 0 l<9223372036854775808):Lib.atoiAll l = .ok (valD 0 l:Int):=by
 match l with
 | c::r=>
  have b:48<=c.toNat/\c.toNat<=57:=qbo (by rw [List.all_cons,qbj] at hd;exact hd.1);simp only [Lib.atoiAll];rw [if_neg kab,Lib.parseMag,if_neg h,zpn _ 0 hd kab];simp only;rw [if_neg kab,if_neg kab,if_neg kab]
theorem atoi_back (l:List UInt8) (v:Int) (h:Lib.atoiAll l = .ok v) (c:0<=v) (b:Lib.itoa v=l):can l/\v=(valD 0 l:Int):=by
 obtain ⟨u,rfl⟩:∃ u:Nat,v=(u:Int):=⟨v.toNat,kab⟩;rw [Lib.itoa_nonneg] at b;have h1:=dec_can u;rw [b] at h1;exact ⟨h1.1,by rw [h1.2.1]⟩
def cutS (c:UInt8):List UInt8->Option (List UInt8×List UInt8)
 | []=>none
 | b::r=>if b=c then some ([],r) else (cutS c r).map fun x=>(b::x.1,x.2)
theorem zlc (c:UInt8):∀ (l a b:List UInt8),cutS c l=some (a,b)->l=a++c::b/\c∉a
 | [],_,_,h=>by cases h
 | x::r,a,b,h=>by
  rw [cutS] at h;split at h
  ·rename_i d;cases h;exact ⟨by rw [d];rfl,by simp⟩
  rename_i d
  match hr:cutS c r with
  | none=>rw [hr] at h;cases h
  | some (e,b')=>
   rw [hr] at h;cases h;obtain ⟨h1,i⟩:=zlc c r e b' hr;exact ⟨by rw [h1];rfl,by simp [i,Ne.symm d]⟩
theorem zpz (c:UInt8):∀ l:List UInt8,cutS c l=none↔c∉l
 | []=>by simp [cutS]
 | x::r=>by
  rw [cutS];have:=zpz c r;by_cases b:x=c
  ·rw [if_pos b];simp [b]
  rw [if_neg b];simp [this,Ne.symm b]
theorem zjk (c:UInt8):∀ l:List UInt8,Lib.index l [c]=match cutS c l with|none => -1|some (a,_)=>(a.length:Int)
 | []=>rfl
 | x::r=>by
  have e:=zjk c r;rw [Lib.index,cutS];by_cases d:x=c
  ·subst d;rw [if_pos (by simp),if_pos rfl];rfl
  have hp:([c].isPrefixOf (x::r))=false:=by simp [List.isPrefixOf,Ne.symm d]
  rw [hp,if_neg kad,if_neg d,e];cases cutS c r with
  | none=>rfl
  | some y=>
   obtain ⟨a,b⟩:=y;simp only [Option.map_some,qbe];rw [if_neg (by simp)];exact (Int.natCast_succ a.length).symm
theorem cut_cut (c:UInt8) (l:List UInt8):Lib.cut l [c]=match cutS c l with|none=>(l,[],false)|some (a,b)=>(a,b,true):=by
 have h:=zjk c l;unfold Lib.cut
 match d:cutS c l with
 | none=>rw [d] at h;rw [h,if_neg kad]
 | some (a,b)=>
  rw [d] at h;simp only at h;obtain ⟨h1,_⟩:=zlc c l a b d;rw [h,if_pos kab,qax,h1];simp
theorem zpw (s:ByteArray) (a b:Nat):(s.extract a b).data.toList=(s.data.toList.drop a).take (b-a):=by
 simp [ByteArray.data_extract,Array.toList_extract]
theorem dots_none (s:ByteArray) (c:UInt8) (h:cutS c s.data.toList=none):Lib.splitB ⟨#[c]⟩ 0 (Lib.countB s ⟨#[c]⟩) s=[s]:=by
 have hi:Lib.indexB s ⟨#[c]⟩ = -1:=by have:=zjk c s.data.toList;rw [h] at this;exact this
 exact Lib.splitB_miss _ _ _ _ hi
theorem dots_some (s:ByteArray) (c:UInt8) (a b:List UInt8) (h:cutS c s.data.toList=some (a,b)) :
  ∃ x y:ByteArray,x.data.toList=a/\y.data.toList=b/\Lib.splitB ⟨#[c]⟩ 0 (Lib.countB s ⟨#[c]⟩) s=x::Lib.splitB ⟨#[c]⟩ 0 (Lib.countB y ⟨#[c]⟩) y:=by
 have hi:Lib.indexB s ⟨#[c]⟩=(a.length:Int):=by have:=zjk c s.data.toList;rw [h] at this;exact this
 obtain ⟨h1,_⟩:=zlc c _ a b h;have d:(ByteArray.mk #[c]).size=1:=rfl;refine ⟨s.extract 0 (a.length+0),s.extract (a.length+1) s.size,?_,?_,?_⟩
 ·rw [zpw,h1];simp
 ·rw [zpw,h1];have e:s.size=a.length+(b.length+1):=by
   have:s.data.toList.length=s.size:=(by simp);rw [<-this,h1];simp
  rw [e];simp;rw [List.take_of_length_le kab]
 have hh:=Lib.countB_hit s ⟨#[c]⟩ a.length (by rw [d];decide) hi;rw [hh,Nat.add_comm 1,Lib.splitB_hit _ _ _ _ _ hi];rfl
def numC (l:List UInt8) (m:Nat):Option Nat:=if can l/\valD 0 l<=m then some (valD 0 l) else none
theorem zdl {l:List UInt8} {m n:Nat} (h:numC l m=some n):can l/\n=valD 0 l/\n<=m:=by
 unfold numC at h;split at h
 ·rename_i b;obtain rfl:=qaa h;exact ⟨b.1,rfl,b.2⟩
 cases h
theorem numC_none {l:List UInt8} {m:Nat} (h:numC l m=none) (c:can l):m<valD 0 l:=by
 unfold numC at h;split at h
 ·cases h
 rename_i h1;rcases Nat.lt_or_ge m (valD 0 l) with b|b
 ·exact b
 exact absurd ⟨c,b⟩ h1
theorem zlw (l:List UInt8) (m:Nat) (b:Bool) (h:b=true↔can l/\valD 0 l<=m):(numC l m).isSome=b:=by
 unfold numC;by_cases c:can l/\valD 0 l<=m
 ·rw [if_pos c,h.2 c];rfl
 rw [if_neg c];cases b with
 | false=>rfl
 | true=>exact absurd (h.1 rfl) c
theorem zqx (l:List UInt8) (m:Nat) (v:Int) (h:Lib.atoiAll l = .ok v) (i:m<9223372036854775808) :
  (decide (0<=v)&&(decide (v<=(m:Int))&&(Lib.itoa v==l)))=(numC l m).isSome/\∀ n,numC l m=some n->v=(n:Int):=by
 have key:∀ n,numC l m=some n->v=(n:Int):=by
  intro n hn;obtain ⟨h1,b,d⟩:=zdl hn;have:=zsf l h1.1 h1.2.1 kab;rw [h] at this;injection this with this;omega
 refine ⟨?_,key⟩;cases hn:numC l m with
 | some n=>
  have e:=key n hn;obtain ⟨h1,b,d⟩:=zdl hn;subst e;rw [qac kab,qac kab,Lib.itoa_nonneg,b,can_dec _ l rfl h1];simp
 | none=>
  rw [Option.isSome_none,<-Bool.not_eq_true];intro c;simp only [qbj,decide_eq_true_eq,qar] at c;obtain ⟨h1,b⟩:=atoi_back l v h c.1 c.2.2;have:=numC_none hn h1;omega
theorem ztx (l:List UInt8) (m:Nat) (h:∀ v,Lib.atoiAll l ≠ .ok v) (d:m<9223372036854775808):numC l m=none:=by
 cases hn:numC l m with
 | none=>rfl
 | some n=>
  obtain ⟨h1,b,c⟩:=zdl hn;exact absurd (zsf l h1.1 h1.2.1 kab) (h _)
theorem itoa_dig (l:List UInt8) (v:Int) (hd:l.all digB=true) (b:Lib.itoa v=l):0<=v:=by
 rcases Int.lt_or_le v 0 with h|h
 ·obtain ⟨u,hu,rfl⟩:∃ u:Nat,1<=u/\v = -(u:Int):=⟨v.natAbs,kab,kab⟩;rw [Lib.itoa_neg u hu] at b;rw [<-b,List.all_cons,qbj] at hd;have c:48<=(45:UInt8).toNat/\(45:UInt8).toNat<=57:=qbo hd.1;exact absurd c kad
 exact h
theorem atoi_dig (l:List UInt8) (m:Nat) (v:Int) (h:Lib.atoiAll l = .ok v) (c:m<9223372036854775808) (hd:l.all digB=true) :
  (decide (v<=(m:Int))&&(Lib.itoa v==l))=(numC l m).isSome:=by
 rw [<-(zqx l m v h c).1];by_cases b:0<=v
 ·rw [qac b,Bool.true_and]
 rw [qak b,Bool.false_and];have:(Lib.itoa v==l)=false:=by
  rw [<-Bool.not_eq_true,qar];exact fun e=>b (itoa_dig l v hd e)
 rw [this,Bool.and_false]
theorem zqc (l:List UInt8) (h:can l) (d:Nat) (hd:1<=d) (c:valD 0 l<10 ^ d):l.length<=d:=by
 rcases zts l h with h1|h1
 ·omega
 have b:10 ^ (l.length-1)<10 ^ d:=Nat.lt_of_le_of_lt h1 c;have:=(Nat.pow_lt_pow_iff_right (a:=10) kad).1 b;omega
end
end Go.Proofs.YtjeekocidaogoaaGreatDoor.H
