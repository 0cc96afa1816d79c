import Derived.Test.YtjeekocidaogoaaGreatDoorK7Addr
import Derived.Test.YtjeekocidaogoaaGreatDoorK7Hx5
import Derived.Test.YtjeekocidaogoaaGreatDoorK7Atoms
import Derived.Maps.Own
set_option linter.unusedVariables false
set_option linter.unusedSimpArgs false
set_option maxRecDepth 100000
set_option maxHeartbeats 8000000
open Go.Proofs.Tryz
namespace Go.Proofs.YtjeekocidaogoaaGreatDoor.H
open Go.RowKit Go.Proofs.YtjeekocidaogoaaGreatDoor.Hand Go.Proofs.YtjeekocidaogoaaGreatDoorW.PrintWords Go.Proofs.YtjeekocidaogoaaGreatDoorW.PrintLast Go.Proofs.YtjeekocidaogoaaGreatDoorW.PrintMore
section
attribute [local go_sem] zdv zdt zel zek zcz zcy zdu zds
def syntax_binds.f (m:Int) (n:ByteArray) (p:ByteArray) (r:List (S47)) (s:List (S68)) (u:List ByteArray) (w:List (S60)) (q:Int):Option (Int):=if m=6 then (some 0) else (if m=5 then (some 1) else (if m=4 then (some 2) else (some 3)))
theorem syntax_binds.calls (m:Int) (E:ByteArray) (G:ByteArray) (z:Option Addr) (J:Nat) (s:List (S47)) (A:Option Addr) (L:Nat) (u:List (S68)) (B:Option Addr) (M:Nat) (x:List ByteArray) (D:Option Addr) (O:Nat) (y:List (S60)) (I:Int) (r:Int) (w:World) (a1:Kd.C k47 w z s.length s) (Y:s.length<=J) (a6:Kd.C k68 w A u.length u) (Z:u.length<=L) (a7:Kd.C Kd.string w B x.length x) (ad:x.length<=M) (a8:Kd.C k60 w D y.length y) (af:y.length<=O) (h:syntax_binds.f m E G s u x y I=some r) :
  Calls prog 133 #[.agg #[.int .i64 m,.string E,.string G,.slice z s.length J,.slice A u.length L,.slice B x.length M,.slice D y.length O,.int .i64 I]] w fun e w'=>e = .returned (.int .i64 r)/\Below w.heap.size w w':=by
 have bp:=underlying60;have aL:=zq a1;have aH:=zq Y;clear a1 Y;have aM:=zq a6;have aI:=zq Z;clear a6 Z;have aN:=zq a7;have aJ:=zq ad;clear a7 ad;have aO:=zq a8;have aK:=zq af;clear a8 af;have HB:=zq (qan w.heap.size w);have H:(if m=6 then (some 0) else (if m=5 then (some 1) else (if m=4 then (some 2) else (some 3))))=some r:=h;clear h;by_cases c2:m=6
 focus
  rw [if_pos c2] at H;have aB:(m==6)=true:=qar.mpr c2;have aC:(m !=6)=false:=qaq.mpr c2;clear c2;obtain rfl:=qaa H;have bq:=trivial
 rotate_right
 focus
  rw [if_neg c2] at H;have aB:(m==6)=false:=qah.mpr c2;have aC:(m !=6)=true:=qbc.mpr c2;by_cases c5:m=5
  focus
   rw [if_pos c5] at H;have aD:(m==5)=true:=qar.mpr c5;have aE:(m !=5)=false:=qaq.mpr c5;clear c5;obtain rfl:=qaa H;have br:=trivial
  rotate_right
  focus
   rw [if_neg c5] at H;have aD:(m==5)=false:=qah.mpr c5;have aE:(m !=5)=true:=qbc.mpr c5;by_cases c8:m=4
   focus
    rw [if_pos c8] at H;have aF:(m==4)=true:=qar.mpr c8;have aG:(m !=4)=false:=qaq.mpr c8;clear c8;obtain rfl:=qaa H;have bu:=trivial
   rotate_right
   focus
    rw [if_neg c8] at H;have aF:(m==4)=false:=qah.mpr c8;have aG:(m !=4)=true:=qbc.mpr c8;obtain rfl:=qaa H;have bv:=trivial
 all_goals (go_enter func133,ntmps133;go_wp2_with (first|((with_reducible refine zcf (N:=1) rfl ?_);refine zcb ?hg (N:=1) ?hd (cs:=#[.int .i64 m,.string E,.string G,.slice z s.length J,.slice A u.length L,.slice B x.length M,.slice D y.length O,.int .i64 I]) (t:=60) ?hr ?_;(case hd=>rfl);(case hg=>rfl);(case hr=>first|(go_simp;done)|(go_simp;rfl));intro p hg q X U;have n:=zq X;have aA:=zq (kge hg (zat kaa):w.heap.size<=p);replace HB:=zq (zau kaa U);clear U X hg;have aP:q.cell? ⟨p,0,none⟩=some (.int .i64 m):=(zab n.o 0).trans rfl;have aQ:q.cell? ⟨p,1,none⟩=some (.string E):=(zab n.o 1).trans rfl;have aR:q.cell? ⟨p,2,none⟩=some (.string G):=(zab n.o 2).trans rfl;have aS:q.cell? ⟨p,3,none⟩=some (.slice z s.length J):=(zab n.o 3).trans rfl;have aT:q.cell? ⟨p,4,none⟩=some (.slice A u.length L):=(zab n.o 4).trans rfl;have aU:q.cell? ⟨p,5,none⟩=some (.slice B x.length M):=(zab n.o 5).trans rfl;have aV:q.cell? ⟨p,6,none⟩=some (.slice D y.length O):=(zab n.o 6).trans rfl;have aW:q.cell? ⟨p,7,none⟩=some (.int .i64 I):=(zab n.o 7).trans rfl;have aX:=zac n.o 0;have aY:=zac n.o 1;have aZ:=zac n.o 2;have ba:=zac n.o 3;have bb:=zac n.o 4;have bc:=zac n.o 5;have bd:=zac n.o 6;have bk:=zac n.o 7));((go_ret);(exact ⟨by first|rfl|(simp [zap,zao]<;>rfl)|(simp [*,zap,zao]<;>rfl),by repeat (first|(with_reducible first|exact HB.o|apply zad|apply zaa|apply zae|refine zaj ?_ aA.o)|exact HB.o)⟩)))
mutual
def lex_Quote.l0:Nat->ByteArray->List Int->Int->Int->Option (ByteArray×Int)
 | 0,_,_,_,_=>none
 | k+1,x0,x4,x12,x13=>if x13<x12 then (if 0<=x13 then (if x13<(x0.size:Int) then (if (bt x0 x13)<32 then (lex_Quote.j1 k x0 x4 (bt x0 x13) x12 x13 true) else (lex_Quote.j1 k x0 x4 (bt x0 x13) x12 x13 (decide ((bt x0 x13)>126)))) else (none)) else (none)) else (if x4.length<140737488355328 then (some (strOfNums (x4++[34]),0)) else (none))
def lex_Quote.j1:Nat->ByteArray->List Int->Int->Int->Int->Bool->Option (ByteArray×Int)
 | 0,_,_,_,_,_,_=>none
 | k+1,x0,x4,x6,x12,x13,x24=>if x24=true then (some ((⟨#[]⟩:ByteArray),1)) else (if x6=34 then (if x4.length<140737488355328 then ((some (x4++[92]:List Int)).bind fun y222=>(if y222.length<140737488355328 then (lex_Quote.l0 k x0 (y222++[x6]) x12 (wrap64 (x13+1))) else (none))) else (none)) else (if x6=92 then (if x4.length<140737488355328 then ((some (x4++[92]:List Int)).bind fun y228=>(if y228.length<140737488355328 then (lex_Quote.l0 k x0 (y228++[x6]) x12 (wrap64 (x13+1))) else (none))) else (none)) else (if x4.length<140737488355328 then (lex_Quote.l0 k x0 (x4++[x6]) x12 (wrap64 (x13+1))) else (none))))
end
def lex_Quote.f (k:Nat) (a0:ByteArray):Option (ByteArray×Int):=if (a0.size:Int)>200 then (some ((⟨#[]⟩:ByteArray),1)) else (lex_Quote.l0 k a0 (([34]:List Int)) (a0.size:Int) 0)
def lychgateref08_small.f (a0:Int):Option (Bool):=if a0>=97 then (some (decide (a0<=122))) else (some false)
theorem lychgateref08_small.calls (a0:Int) (r:Bool) (w:World) (h:lychgateref08_small.f a0=some r) :
  Calls prog 81 #[.int .u8 a0] w fun e w'=>e = .returned (.bool r)/\Drawn0 w w':=by
 have H:(if a0>=97 then (some (decide (a0<=122))) else (some false))=some r:=h;clear h;by_cases c2:a0>=97
 ·rw [if_pos c2] at H;have m:decide (97<=a0)=true:=qac c2;clear c2;obtain rfl:=qaa H;go_enter func81,ntmps81;go_wp2;go_ret;exact ⟨kaf,by repeat (first|exact Drawn0.refl _|apply Drawn0.step)⟩
 rw [if_neg c2] at H;have m:decide (97<=a0)=false:=qak c2;clear c2;obtain rfl:=qaa H;go_enter func81,ntmps81;go_wp2;go_ret;exact ⟨kaf,by repeat (first|exact Drawn0.refl _|apply Drawn0.step)⟩
def lychgateref08_great.f (a0:Int):Option (Bool):=if a0>=65 then (some (decide (a0<=90))) else (some false)
theorem lychgateref08_great.calls (a0:Int) (r:Bool) (w:World) (h:lychgateref08_great.f a0=some r) :
  Calls prog 82 #[.int .u8 a0] w fun e w'=>e = .returned (.bool r)/\Drawn0 w w':=by
 have H:(if a0>=65 then (some (decide (a0<=90))) else (some false))=some r:=h;clear h;by_cases c2:a0>=65
 ·rw [if_pos c2] at H;have m:decide (65<=a0)=true:=qac c2;clear c2;obtain rfl:=qaa H;go_enter func82,ntmps82;go_wp2;go_ret;exact ⟨kaf,by repeat (first|exact Drawn0.refl _|apply Drawn0.step)⟩
 rw [if_neg c2] at H;have m:decide (65<=a0)=false:=qak c2;clear c2;obtain rfl:=qaa H;go_enter func82,ntmps82;go_wp2;go_ret;exact ⟨kaf,by repeat (first|exact Drawn0.refl _|apply Drawn0.step)⟩
def lychgateref08_digit.f (a0:Int):Option (Bool):=if a0>=48 then (some (decide (a0<=57))) else (some false)
theorem lychgateref08_digit.calls (a0:Int) (r:Bool) (w:World) (h:lychgateref08_digit.f a0=some r) :
  Calls prog 83 #[.int .u8 a0] w fun e w'=>e = .returned (.bool r)/\Drawn0 w w':=by
 have H:(if a0>=48 then (some (decide (a0<=57))) else (some false))=some r:=h;clear h;by_cases c2:a0>=48
 ·rw [if_pos c2] at H;have m:decide (48<=a0)=true:=qac c2;clear c2;obtain rfl:=qaa H;go_enter func83,ntmps83;go_wp2;go_ret;exact ⟨kaf,by repeat (first|exact Drawn0.refl _|apply Drawn0.step)⟩
 rw [if_neg c2] at H;have m:decide (48<=a0)=false:=qak c2;clear c2;obtain rfl:=qaa H;go_enter func83,ntmps83;go_wp2;go_ret;exact ⟨kaf,by repeat (first|exact Drawn0.refl _|apply Drawn0.step)⟩
def lychgateref08_within.f (a0:Int) (a1:Int):Option (Bool):=(lychgateref08_small.f a1).bind fun n=>((lychgateref08_digit.f a1).bind fun m=>((lychgateref08_great.f a1).bind fun p=>(if a0=1 then (if n=true then (some true) else (if m=true then (some true) else (if a1=95 then (some true) else (some (a1==45))))) else (if a0=2 then (some p) else (if m=true then (some true) else (if a1=46 then (some true) else (some (a1==47))))))))
theorem lychgateref08_within.calls (a0:Int) (a1:Int) (r:Bool) (w:World) (h:lychgateref08_within.f a0 a1=some r) :
  Calls prog 116 #[.int .i64 a0,.int .u8 a1] w fun e w'=>e = .returned (.bool r)/\Drawn0 w w':=by
 have H:((lychgateref08_small.f a1).bind fun q=>((lychgateref08_digit.f a1).bind fun n=>((lychgateref08_great.f a1).bind fun s=>(if a0=1 then (if q=true then (some true) else (if n=true then (some true) else (if a1=95 then (some true) else (some (a1==45))))) else (if a0=2 then (some s) else (if n=true then (some true) else (if a1=46 then (some true) else (some (a1==47)))))))))=some r:=h;clear h;obtain ⟨q,u,H⟩:=kbd H;try dsimp only at H
 obtain ⟨n,x,H⟩:=kbd H;try dsimp only at H
 obtain ⟨s,A5,H⟩:=kbd H;try dsimp only at H
 by_cases c6:a0=1
 focus
  rw [if_pos c6] at H;have X:(a0==1)=true:=qar.mpr c6;have Y:(a0 !=1)=false:=qaq.mpr c6;clear c6;by_cases c7:q=true
  focus
   subst c7;rw [if_pos rfl] at H;obtain rfl:=qaa H;have z:=trivial
  rotate_right
  focus
   obtain rfl:=qbf.mpr c7;rw [if_neg kft] at H;by_cases c8:n=true
   focus
    subst c8;rw [if_pos rfl] at H;obtain rfl:=qaa H;have A:=trivial
   rotate_right
   focus
    obtain rfl:=qbf.mpr c8;rw [if_neg kft] at H;by_cases c9:a1=95
    focus
     rw [if_pos c9] at H;have Z:(a1==95)=true:=qar.mpr c9;have ad:(a1 !=95)=false:=qaq.mpr c9;clear c9;obtain rfl:=qaa H;have B:=trivial
    rotate_right
    focus
     rw [if_neg c9] at H;have Z:(a1==95)=false:=qah.mpr c9;have ad:(a1 !=95)=true:=qbc.mpr c9;obtain rfl:=qaa H;have D:=trivial
 rotate_right
 focus
  rw [if_neg c6] at H;have X:(a0==1)=false:=qah.mpr c6;have Y:(a0 !=1)=true:=qbc.mpr c6;by_cases c10:a0=2
  focus
   rw [if_pos c10] at H;have L:(a0==2)=true:=qar.mpr c10;have M:(a0 !=2)=false:=qaq.mpr c10;clear c10;obtain rfl:=qaa H;have E:=trivial
  rotate_right
  focus
   rw [if_neg c10] at H;have L:(a0==2)=false:=qah.mpr c10;have M:(a0 !=2)=true:=qbc.mpr c10;by_cases y:n=true
   focus
    subst y;rw [if_pos rfl] at H;obtain rfl:=qaa H;have G:=trivial
   rotate_right
   focus
    obtain rfl:=qbf.mpr y;rw [if_neg kft] at H;by_cases c12:a1=46
    focus
     rw [if_pos c12] at H;have O:(a1==46)=true:=qar.mpr c12;have U:(a1 !=46)=false:=qaq.mpr c12;clear c12;obtain rfl:=qaa H;have I:=trivial
    rotate_right
    focus
     rw [if_neg c12] at H;have O:(a1==46)=false:=qah.mpr c12;have U:(a1 !=46)=true:=qbc.mpr c12;obtain rfl:=qaa H;have J:=trivial
 all_goals (go_enter func116,ntmps116;go_wp2_with (first|((first|have m:=z|have m:=A|have m:=B|have m:=D);(with_reducible refine zar (f:=81) rfl ?_);refine zbs (some 9) rfl rfl func81 kae rfl #[.int .u8 a1] rfl kac ?_;(with_reducible refine (lychgateref08_small.calls a1 _ _ u.o).mono ?_);rintro e w' ⟨rfl,⟨p,rfl⟩⟩;refine ⟨_,rfl,?_⟩)|((first|have m:=z|have m:=E);(with_reducible refine zar (f:=83) rfl ?_);refine zbs (some 11) rfl rfl func83 kae rfl #[.int .u8 a1] rfl kac ?_;(with_reducible refine (lychgateref08_digit.calls a1 n _ x.o).mono ?_);rintro e w' ⟨rfl,⟨p,rfl⟩⟩;refine ⟨_,rfl,?_⟩)|((with_reducible refine zar (f:=82) rfl ?_);refine zbs (some 13) rfl rfl func82 kae rfl #[.int .u8 a1] rfl kac ?_;(with_reducible refine (lychgateref08_great.calls a1 s _ A5.o).mono ?_);rintro e w' ⟨rfl,⟨p,rfl⟩⟩;refine ⟨_,rfl,?_⟩)|((first|have m:=A|have m:=B|have m:=D|have m:=G|have m:=I|have m:=J);(with_reducible refine zar (f:=83) rfl ?_);refine zbs (some 11) rfl rfl func83 kae rfl #[.int .u8 a1] rfl kac ?_;(with_reducible refine (lychgateref08_digit.calls a1 _ _ x.o).mono ?_);rintro e w' ⟨rfl,⟨p,rfl⟩⟩;refine ⟨_,rfl,?_⟩)|((first|have m:=E|have m:=G|have m:=I|have m:=J);(with_reducible refine zar (f:=81) rfl ?_);refine zbs (some 9) rfl rfl func81 kae rfl #[.int .u8 a1] rfl kac ?_;(with_reducible refine (lychgateref08_small.calls a1 q _ u.o).mono ?_);rintro e w' ⟨rfl,⟨p,rfl⟩⟩;refine ⟨_,rfl,?_⟩));((go_ret);(exact ⟨kaf,by repeat (first|exact Drawn0.refl _|apply Drawn0.step)⟩)))
def lychgateref08_run.l0:Nat->Int->ByteArray->Int->Option (Int)
 | 0,_,_,_=>none
 | k+1,p,n,m=>if m<(n.size:Int) then (if 0<=m then ((lychgateref08_within.f p (bt n m)).bind fun q=>(if q=true then (lychgateref08_run.l0 k p n (wrap64 (m+1))) else (some m))) else (none)) else (some m)
def lychgateref08_run.f (k:Nat) (a0:Int) (a1:ByteArray) (a2:Int):Option (Int):=lychgateref08_run.l0 k a0 a1 a2
theorem lychgateref08_run.calls (k:Nat) (a0:Int) (a1:ByteArray) (a2:Int) (r:Int) (w:World) (h:lychgateref08_run.f k a0 a1 a2=some r) :
  Calls prog 84 #[.int .i64 a0,.string a1,.int .i64 a2] w fun e w'=>e = .returned (.int .i64 r)/\Drawn0 w w':=by
 have H:(lychgateref08_run.l0 k a0 a1 a2)=some r:=h;clear h;have q:=zq H;clear H;go_enter func84,ntmps84;go_wp2;go_loopg [2] k (fun x v2 w'=>∃ (m:Int),v2 = .int .i64 m/\Zq (lychgateref08_run.l0 x a0 a1 m=some r)/\Zq (x<=k)/\Drawn0 w w');case atStart=>exact ⟨(a2),kaf,q,⟨qad _⟩,by repeat (first|exact Drawn0.refl _|apply Drawn0.step)⟩
 case round=>
  clear q;try clear p2
  obtain ⟨m,rfl,s,u,⟨m1,rfl⟩⟩:=hrel;cases gk with
  | zero=>exact absurd s.o (by simp [lychgateref08_run.l0])
  | succ A=>
   have H:=s.o;clear s;simp only [lychgateref08_run.l0] at H;by_cases c4:m<(a1.size:Int)
   ·rw [if_pos c4] at H;have y:decide (m<(a1.size:Int))=true:=qac c4;clear c4;by_cases c5:0<=m
    ·rw [if_pos c5] at H;have E:decide (0<=m)=true:=qac c5;clear c5;obtain ⟨D,A7,H⟩:=kbd H;(try dsimp only at H);by_cases c8:D=true
     ·subst c8;rw [if_pos rfl] at H;have q:=zq H;clear H;have n:0<=(m:Int):=kao;have p:m<(a1.size:Int):=kao;have z:=zcs a1 m;replace n:=eq_true n;replace p:=eq_true p;go_wp2_with (first|((with_reducible refine zar (f:=116) rfl ?_);refine zbs (some 16) rfl rfl func116 kae rfl #[.int .i64 a0,.int .u8 (bt a1 m)] rfl kac ?_;(with_reducible refine (lychgateref08_within.calls a0 (bt a1 m) _ _ A7.o).mono ?_);rintro e w' ⟨rfl,⟨B,rfl⟩⟩;refine ⟨_,rfl,?_⟩))
      go_roundg A
      case measure=>have:=u.o;omega
      case rel=>exact ⟨(wrap64 (m+1)),kaf,q,⟨by have:=u.o;omega⟩,by repeat (first|exact Drawn0.refl _|apply Drawn0.step)⟩
     replace c8:=qbf.mpr c8;subst c8;rw [if_neg (show ¬(false=true) by decide)] at H;obtain rfl:=qaa H;have n:0<=(m:Int):=kao;have p:m<(a1.size:Int):=kao;have z:=zcs a1 m;replace n:=eq_true n;replace p:=eq_true p;go_wp2_with (first|((with_reducible refine zar (f:=116) rfl ?_);refine zbs (some 16) rfl rfl func116 kae rfl #[.int .i64 a0,.int .u8 (bt a1 m)] rfl kac ?_;(with_reducible refine (lychgateref08_within.calls a0 (bt a1 m) _ _ A7.o).mono ?_);rintro e w' ⟨rfl,⟨B,rfl⟩⟩;refine ⟨_,rfl,?_⟩));go_ret;exact ⟨kaf,by repeat (first|exact Drawn0.refl _|apply Drawn0.step)⟩
    rw [if_neg c5] at H;exact absurd H (by simp)
   rw [if_neg c4] at H;have y:decide (m<(a1.size:Int))=false:=qak c4;clear c4;obtain rfl:=qaa H;go_wp2;go_ret;exact ⟨kaf,by repeat (first|exact Drawn0.refl _|apply Drawn0.step)⟩
def lychgateref08_words.f  : Option (List ByteArray):=some (([(⟨#[108,101,116]⟩:ByteArray),(⟨#[97,108,108,111,119]⟩:ByteArray),(⟨#[100,101,110,121]⟩:ByteArray),(⟨#[119,104,101,110]⟩:ByteArray),(⟨#[97,110,100]⟩:ByteArray),(⟨#[111,114]⟩:ByteArray),(⟨#[110,111,116]⟩:ByteArray),(⟨#[116,114,117,101]⟩:ByteArray),(⟨#[102,97,108,115,101]⟩:ByteArray),(⟨#[105,110]⟩:ByteArray),(⟨#[97,100,100,114]⟩:ByteArray),(⟨#[112,111,114,116]⟩:ByteArray),(⟨#[109,101,116,104,111,100]⟩:ByteArray),(⟨#[112,97,116,104]⟩:ByteArray),(⟨#[104,101,97,100,101,114]⟩:ByteArray),(⟨#[104,97,115]⟩:ByteArray)]:List ByteArray))
theorem lychgateref08_words.calls  (r:List ByteArray) (w:World) (h:lychgateref08_words.f  = some r) :
  Calls prog 117 #[] w fun e w'=>∃ u:Value,e = .returned (u)/\Kd.R Kd.string 9 w' w.heap.size (fun _=>True) u r/\Below w.heap.size w w':=by
 have HB:=zq (qan w.heap.size w);have H:(some (([(⟨#[108,101,116]⟩:ByteArray),(⟨#[97,108,108,111,119]⟩:ByteArray),(⟨#[100,101,110,121]⟩:ByteArray),(⟨#[119,104,101,110]⟩:ByteArray),(⟨#[97,110,100]⟩:ByteArray),(⟨#[111,114]⟩:ByteArray),(⟨#[110,111,116]⟩:ByteArray),(⟨#[116,114,117,101]⟩:ByteArray),(⟨#[102,97,108,115,101]⟩:ByteArray),(⟨#[105,110]⟩:ByteArray),(⟨#[97,100,100,114]⟩:ByteArray),(⟨#[112,111,114,116]⟩:ByteArray),(⟨#[109,101,116,104,111,100]⟩:ByteArray),(⟨#[112,97,116,104]⟩:ByteArray),(⟨#[104,101,97,100,101,114]⟩:ByteArray),(⟨#[104,97,115]⟩:ByteArray)]:List ByteArray)))=some r:=h;clear h;obtain ⟨A,n⟩:∃ B:List ByteArray,B=(([(⟨#[108,101,116]⟩:ByteArray),(⟨#[97,108,108,111,119]⟩:ByteArray),(⟨#[100,101,110,121]⟩:ByteArray),(⟨#[119,104,101,110]⟩:ByteArray),(⟨#[97,110,100]⟩:ByteArray),(⟨#[111,114]⟩:ByteArray),(⟨#[110,111,116]⟩:ByteArray),(⟨#[116,114,117,101]⟩:ByteArray),(⟨#[102,97,108,115,101]⟩:ByteArray),(⟨#[105,110]⟩:ByteArray),(⟨#[97,100,100,114]⟩:ByteArray),(⟨#[112,111,114,116]⟩:ByteArray),(⟨#[109,101,116,104,111,100]⟩:ByteArray),(⟨#[112,97,116,104]⟩:ByteArray),(⟨#[104,101,97,100,101,114]⟩:ByteArray),(⟨#[104,97,115]⟩:ByteArray)]:List ByteArray)):=⟨_,rfl⟩;replace H:(some A)=some r:=by first|(rw [n];with_reducible exact H)|(have p:=(qam _ _).symm.trans H;rw [n];with_reducible exact p)|(have p:=(qam _ _).symm.trans H;with_reducible exact p)|with_reducible exact H|(rw [n];exact H)|exact H
 have q:=zq n;clear n;obtain rfl:=qaa H;go_enter func117,ntmps117;go_wp2_with (first|((with_reducible refine zcf (N:=1) rfl ?_);refine Kd.R_lit Kd.string _ 9 ?hg (N:=1) ?hd (xs:=([(⟨#[108,101,116]⟩:ByteArray),(⟨#[97,108,108,111,119]⟩:ByteArray),(⟨#[100,101,110,121]⟩:ByteArray),(⟨#[119,104,101,110]⟩:ByteArray),(⟨#[97,110,100]⟩:ByteArray),(⟨#[111,114]⟩:ByteArray),(⟨#[110,111,116]⟩:ByteArray),(⟨#[116,114,117,101]⟩:ByteArray),(⟨#[102,97,108,115,101]⟩:ByteArray),(⟨#[105,110]⟩:ByteArray),(⟨#[97,100,100,114]⟩:ByteArray),(⟨#[112,111,114,116]⟩:ByteArray),(⟨#[109,101,116,104,111,100]⟩:ByteArray),(⟨#[112,97,116,104]⟩:ByteArray),(⟨#[104,101,97,100,101,114]⟩:ByteArray),(⟨#[104,97,115]⟩:ByteArray)]:List ByteArray)) (inner:=[.string (⟨#[108,101,116]⟩:ByteArray),.string (⟨#[97,108,108,111,119]⟩:ByteArray),.string (⟨#[100,101,110,121]⟩:ByteArray),.string (⟨#[119,104,101,110]⟩:ByteArray),.string (⟨#[97,110,100]⟩:ByteArray),.string (⟨#[111,114]⟩:ByteArray),.string (⟨#[110,111,116]⟩:ByteArray),.string (⟨#[116,114,117,101]⟩:ByteArray),.string (⟨#[102,97,108,115,101]⟩:ByteArray),.string (⟨#[105,110]⟩:ByteArray),.string (⟨#[97,100,100,114]⟩:ByteArray),.string (⟨#[112,111,114,116]⟩:ByteArray),.string (⟨#[109,101,116,104,111,100]⟩:ByteArray),.string (⟨#[112,97,116,104]⟩:ByteArray),.string (⟨#[104,101,97,100,101,114]⟩:ByteArray),.string (⟨#[104,97,115]⟩:ByteArray)]) (ok:=fun _=>True) (okp:=fun _=>True) ?hr ?hp (fun _ hk=>hk) trivial (qan _ _) (qad _) (by simp) ?_;(case hd=>rfl);(case hg=>rfl);(case hr=>first|(go_simp;done)|(go_simp;rfl));(case hp=>exact (Reps.one (show Kd.M Kd.string _ _ _ (⟨#[108,101,116]⟩:ByteArray) [.string (⟨#[108,101,116]⟩:ByteArray)] from rfl) (Reps.one (show Kd.M Kd.string _ _ _ (⟨#[97,108,108,111,119]⟩:ByteArray) [.string (⟨#[97,108,108,111,119]⟩:ByteArray)] from rfl) (Reps.one (show Kd.M Kd.string _ _ _ (⟨#[100,101,110,121]⟩:ByteArray) [.string (⟨#[100,101,110,121]⟩:ByteArray)] from rfl) (Reps.one (show Kd.M Kd.string _ _ _ (⟨#[119,104,101,110]⟩:ByteArray) [.string (⟨#[119,104,101,110]⟩:ByteArray)] from rfl) (Reps.one (show Kd.M Kd.string _ _ _ (⟨#[97,110,100]⟩:ByteArray) [.string (⟨#[97,110,100]⟩:ByteArray)] from rfl) (Reps.one (show Kd.M Kd.string _ _ _ (⟨#[111,114]⟩:ByteArray) [.string (⟨#[111,114]⟩:ByteArray)] from rfl) (Reps.one (show Kd.M Kd.string _ _ _ (⟨#[110,111,116]⟩:ByteArray) [.string (⟨#[110,111,116]⟩:ByteArray)] from rfl) (Reps.one (show Kd.M Kd.string _ _ _ (⟨#[116,114,117,101]⟩:ByteArray) [.string (⟨#[116,114,117,101]⟩:ByteArray)] from rfl) (Reps.one (show Kd.M Kd.string _ _ _ (⟨#[102,97,108,115,101]⟩:ByteArray) [.string (⟨#[102,97,108,115,101]⟩:ByteArray)] from rfl) (Reps.one (show Kd.M Kd.string _ _ _ (⟨#[105,110]⟩:ByteArray) [.string (⟨#[105,110]⟩:ByteArray)] from rfl) (Reps.one (show Kd.M Kd.string _ _ _ (⟨#[97,100,100,114]⟩:ByteArray) [.string (⟨#[97,100,100,114]⟩:ByteArray)] from rfl) (Reps.one (show Kd.M Kd.string _ _ _ (⟨#[112,111,114,116]⟩:ByteArray) [.string (⟨#[112,111,114,116]⟩:ByteArray)] from rfl) (Reps.one (show Kd.M Kd.string _ _ _ (⟨#[109,101,116,104,111,100]⟩:ByteArray) [.string (⟨#[109,101,116,104,111,100]⟩:ByteArray)] from rfl) (Reps.one (show Kd.M Kd.string _ _ _ (⟨#[112,97,116,104]⟩:ByteArray) [.string (⟨#[112,97,116,104]⟩:ByteArray)] from rfl) (Reps.one (show Kd.M Kd.string _ _ _ (⟨#[104,101,97,100,101,114]⟩:ByteArray) [.string (⟨#[104,101,97,100,101,114]⟩:ByteArray)] from rfl) (Reps.one (show Kd.M Kd.string _ _ _ (⟨#[104,97,115]⟩:ByteArray) [.string (⟨#[104,97,115]⟩:ByteArray)] from rfl) (Reps.none _ _))))))))))))))))));intro D w1 m s y z;clear y z;(first|rw [<-q.o] at m|(simp only [Int.reduceToNat] at m;rw [<-q.o] at m));have x:=zq (Kd.R_lower m (zat kaa));replace HB:=zq (zau kaa s);clear s m));go_ret;exact ⟨_,by first|rfl|(simp [zap,zao]<;>rfl)|(simp [*,zap,zao]<;>rfl),by (with_reducible repeat (first|apply Kd.R_alloc|apply Kd.R_drewN|apply Kd.R_drew));exact x.o,kaa⟩
def lychgateref08_IsWord.l0:Nat->ByteArray->List ByteArray->Int->Option (Bool)
 | 0,_,_,_=>none
 | k+1,p,n,m=>if m<(n.length:Int) then (if 0<=m then (if (rdOf ByteArray.empty n m).toList=p.toList then (some true) else (lychgateref08_IsWord.l0 k p n (wrap64 (m+1)))) else (none)) else (some false)
def lychgateref08_IsWord.f (k:Nat) (a0:ByteArray):Option (Bool):=(lychgateref08_words.f).bind fun m=>(lychgateref08_IsWord.l0 k a0 m 0)
theorem lychgateref08_IsWord.calls (k:Nat) (a0:ByteArray) (r:Bool) (w:World) (h:lychgateref08_IsWord.f k a0=some r) :
  Calls prog 85 #[.string a0] w fun e w'=>e = .returned (.bool r)/\Below w.heap.size w w':=by
 have HB:=zq (qan w.heap.size w);have H:((lychgateref08_words.f).bind fun n=>(lychgateref08_IsWord.l0 k a0 n 0))=some r:=h;clear h;replace H:=qba.mp H;obtain ⟨n,z,H⟩:=H;replace H:(lychgateref08_IsWord.l0 k a0 n 0)=some r:=H;have G:=zq z;clear z;have u:=zq H;clear H;go_enter func85,ntmps85;go_wp2_with (first|((with_reducible refine zar (f:=117) rfl ?_);refine zbs (some 5) rfl rfl func117 kae rfl #[] rfl kac ?_;(with_reducible refine (lychgateref08_words.calls  n _ G.o).mono ?_);rintro e w3 ⟨ad,rfl,D,B⟩;refine ⟨_,rfl,?_⟩;have I:=zq (Kd.R_lower D (zat kaa));replace HB:=zq (zau kaa B);(try clear B);(try clear aC);(try clear hk);(try clear hi);(try clear D)));go_loopg [4] k (fun E v4 w'=>∃ (m:Int),v4 = .int .i64 m/\Zq (lychgateref08_IsWord.l0 E a0 n m=some r)/\Zq (E<=k)/\Zq (Kd.R Kd.string 9 w' w.heap.size (fun _=>True) ad n)/\Zq (Below w.heap.size w w'));case atStart=>exact ⟨(0),kaf,u,⟨qad _⟩,⟨by (with_reducible repeat (first|apply Kd.R_alloc|apply Kd.R_drewN|apply Kd.R_drew));exact I.o⟩,⟨kaa⟩⟩
 case round=>
  clear u;try clear c1
  try clear p2
  obtain ⟨m,rfl,x,A,s,HB⟩:=hrel;cases gk with
  | zero=>exact absurd x.o (by simp [lychgateref08_IsWord.l0])
  | succ k1=>
   have H:=x.o;clear x;simp only [lychgateref08_IsWord.l0] at H;by_cases c4:m<(n.length:Int)
   ·rw [if_pos c4] at H;have L:decide (m<(n.length:Int))=true:=qac c4;clear c4;by_cases c5:0<=m
    ·rw [if_pos c5] at H;have a7:decide (0<=m)=true:=qac c5;clear c5;by_cases c6:(rdOf ByteArray.empty n m).toList=a0.toList
     ·rw [if_pos c6] at H;have M:((rdOf ByteArray.empty n m).toList==a0.toList)=true:=qar.mpr c6;have O:((rdOf ByteArray.empty n m).toList !=a0.toList)=false:=qaq.mpr c6;clear c6;obtain rfl:=qaa H;obtain ⟨af,a8,U⟩:=Kd.R_slice s.o;subst U;have p:0<=(m:Int):=kao;have q:m<(n.length:Int):=kao;obtain ⟨J,y,Z⟩:=Kd.at_string (Kd.R_reads' s.o).2.2 m p q;cases y;replace p:=eq_true p;replace q:=eq_true q;go_wp2;go_ret;exact ⟨by first|rfl|(simp [zap,zao]<;>rfl)|(simp [*,zap,zao]<;>rfl),kaa⟩
     rw [if_neg c6] at H;have M:((rdOf ByteArray.empty n m).toList==a0.toList)=false:=qah.mpr c6;have O:((rdOf ByteArray.empty n m).toList !=a0.toList)=true:=qbc.mpr c6;have u:=zq H;clear H;obtain ⟨a1,aA,X⟩:=Kd.R_slice s.o;subst X;have p:0<=(m:Int):=kao;have q:m<(n.length:Int):=kao;obtain ⟨J,y,Z⟩:=Kd.at_string (Kd.R_reads' s.o).2.2 m p q;cases y;replace p:=eq_true p;replace q:=eq_true q;go_wp2
     go_roundg k1
     case measure=>have:=A.o;omega
     case rel=>exact ⟨(wrap64 (m+1)),kaf,u,⟨by have:=A.o;omega⟩,⟨by (with_reducible repeat (first|apply Kd.R_alloc|apply Kd.R_drewN|apply Kd.R_drew));exact s.o⟩,⟨kaa⟩⟩
    rw [if_neg c5] at H;exact absurd H (by simp)
   rw [if_neg c4] at H;have L:decide (m<(n.length:Int))=false:=qak c4;clear c4;obtain rfl:=qaa H;obtain ⟨a6,aB,Y⟩:=Kd.R_slice s.o;subst Y;go_wp2;go_ret;exact ⟨by first|rfl|(simp [zap,zao]<;>rfl)|(simp [*,zap,zao]<;>rfl),kaa⟩
end
section
def zox:List ByteArray:=[⟨#[108,101,116]⟩,⟨#[97,108,108,111,119]⟩,⟨#[100,101,110,121]⟩,⟨#[119,104,101,110]⟩,⟨#[97,110,100]⟩,⟨#[111,114]⟩,⟨#[110,111,116]⟩,⟨#[116,114,117,101]⟩,⟨#[102,97,108,115,101]⟩,⟨#[105,110]⟩,⟨#[97,100,100,114]⟩,⟨#[112,111,114,116]⟩,⟨#[109,101,116,104,111,100]⟩,⟨#[112,97,116,104]⟩,⟨#[104,101,97,100,101,114]⟩,⟨#[104,97,115]⟩]
def isIn (xs:List ByteArray) (s:ByteArray):Bool:=xs.any fun w=>decide (w.toList=s.toList)
theorem zhn (a:ByteArray) (l:List ByteArray) (s:ByteArray):isIn (a::l) s=(decide (a.toList=s.toList)||isIn l s):=by simp only [isIn,List.any_cons]
def ziu (s:ByteArray):Bool:=isIn zox s
theorem index_l0 (xs:List ByteArray) (s:ByteArray) (hn:xs.length<=100000):∀ (d i k:Nat),i+d=xs.length->d+1<=k->∃ r:Int,slices_Index_string_string.l0 k xs s (xs.length:Int) (i:Int)=some r/\(0<=r↔isIn (xs.drop i) s=true):=by
 intro d;induction d with
 | zero=>
  intro i k hi hk;obtain ⟨k,rfl⟩:∃ m,k=m+1:=⟨k-1,kab⟩;refine ⟨-1,?_,?_⟩
  ·simp only [slices_Index_string_string.l0];rw [if_neg kab]
  rw [qaz kab];simp [isIn]
 | succ d q=>
  intro i k hi hk;obtain ⟨k,rfl⟩:∃ m,k=m+1:=⟨k-1,kab⟩;have n:i<xs.length:=kab;have hr:rdOf ByteArray.empty xs (i:Int)=xs[i]:=by
   unfold rdOf;rw [qax,qat,qao n];rfl
  have hd:xs.drop i=xs[i]::xs.drop (i+1):=qbh n;simp only [slices_Index_string_string.l0];rw [if_pos kab,if_pos kab,if_pos kab,hr,hd];by_cases h:s.toList=xs[i].toList
  ·refine ⟨i,by rw [if_pos h],?_⟩;constructor
   ·intro _;rw [zhn,h,qac rfl];rfl
   intro _;omega
  obtain ⟨r,h1,p⟩:=q (i+1) k kab kab;refine ⟨r,?_,?_⟩
  ·rw [if_neg h,zct i kab];exact h1
  rw [p];have:decide (xs[i].toList=s.toList)=false:=qak (fun e=>h e.symm);rw [zhn,this,Bool.false_or]
theorem zmi (xs:List ByteArray) (s:ByteArray) (hn:xs.length<=100000) (k:Nat) (hk:xs.length+1<=k):slices_Contains_string_string.f k xs s=some (isIn xs s):=by
 obtain ⟨r,h1,m⟩:=index_l0 xs s hn xs.length 0 k kab hk;unfold slices_Contains_string_string.f slices_Index_string_string.f;rw [show ((0:Nat):Int)=0 from rfl] at h1;rw [h1];simp only [qam,List.drop_zero] at m ⊢;cases n:isIn xs s with
 | true=>rw [n] at m;rw [qac (m.2 rfl)]
 | false=>rw [n] at m;rw [qak (fun h=>by have:=m.1 h;cases this)]
theorem fields_words:strings_Fields.f (⟨#[108,101,116,32,97,108,108,111,119,32,100,101,110,121,32,119,104,101,110,32,97,110,100,32,111,114,32,110,111,116,32,116,114,117,101,32,102,97,108,115,101,32,105,110,32,97,100,100,114,32,112,111,114,116,32,109,101,116,104,111,100,32,112,97,116,104,32,104,101,97,100,101,114,32,104,97,115]⟩:ByteArray)=some zox:=by decide +kernel
theorem zjh (s:ByteArray) (k:Nat) (hk:100<=k):lex_IsWord.f k s=some (ziu s):=by
 unfold lex_IsWord.f;rw [fields_words];simp only [qam];rw [zmi zox s kad k (by have:zox.length=16:=rfl;omega)];rfl
theorem ref_isword_l0 (xs:List ByteArray) (s:ByteArray) (hn:xs.length<=100000):∀ (d i k:Nat),i+d=xs.length->d+1<=k->lychgateref08_IsWord.l0 k s xs (i:Int)=some (isIn (xs.drop i) s):=by
 intro d;induction d with
 | zero=>
  intro i k hi hk;obtain ⟨k,rfl⟩:∃ m,k=m+1:=⟨k-1,kab⟩;rw [qaz kab];simp only [lychgateref08_IsWord.l0];rw [if_neg kab];rfl
 | succ d p=>
  intro i k hi hk;obtain ⟨k,rfl⟩:∃ m,k=m+1:=⟨k-1,kab⟩;have n:i<xs.length:=kab;have hr:rdOf ByteArray.empty xs (i:Int)=xs[i]:=by
   unfold rdOf;rw [qax,qat,qao n];rfl
  have hd:xs.drop i=xs[i]::xs.drop (i+1):=qbh n;simp only [lychgateref08_IsWord.l0];rw [if_pos kab,if_pos kab,hr,hd];by_cases h:xs[i].toList=s.toList
  ·rw [if_pos h,zhn,qac h];rfl
  rw [if_neg h,zct i kab,p (i+1) k kab kab,zhn,qak h,Bool.false_or]
theorem ref_isword_eq (s:ByteArray) (k:Nat) (hk:100<=k):lychgateref08_IsWord.f k s=some (ziu s):=by
 unfold lychgateref08_IsWord.f;have m:lychgateref08_words.f=some zox:=rfl;rw [m];simp only [qam];have:=ref_isword_l0 zox s kad 16 0 k rfl kab;simpa [ziu] using this
def zbc (c:Int):Int:=
 if c=32\/c=9\/c=10\/c=13 then 1 else if c=35 then 2 else if 97<=c/\c<=122 then 3 else if 65<=c/\c<=90 then 4 else if 48<=c/\c<=57 then 5 else if c=34 then 6
 else if c=123\/c=125\/c=40\/c=41\/c=44\/c=59\/c=61\/c=126\/c=45 then 7 else 0
theorem begins_low:∀ n:Fin 128,lex_begins.f (n.val:Int)=some (zbc (n.val:Int)):=by decide +kernel
theorem zrj (s:ByteArray) (c:Int) (h:¬(0<=c/\c<128)) (hs:s.data.toList.all (fun b=>decide (b.toNat<128))=true) (m:s.size<=maxLen):strings_ContainsRune.f s c=some false:=by
 unfold strings_ContainsRune.f;rw [if_pos ⟨hs,m⟩,qak (fun hh=>h ⟨hh.1,hh.2.1⟩)]
theorem zgw (c:Int):lex_begins.f c=some (zbc c):=by
 by_cases h:0<=c/\c<128
 ·have:=begins_low ⟨c.toNat,kab⟩;have e:((c.toNat:Nat):Int)=c:=kab;simp only [e] at this;exact this
 unfold lex_begins.f lex_isSmall.f lex_isGreat.f lex_isDigit.f;rw [zrj _ c h kad kad,zrj _ c h kad kad];simp only [qam];have m:zbc c=0:=by unfold zbc;repeat rw [if_neg kab]
 rw [m,if_neg kad,if_neg kab];by_cases h1:c>=97
 ·rw [if_pos h1,if_pos (show c>=65 by omega),if_pos (show c>=48 by omega)];simp only [qam];rw [qak (show ¬c<=122 by omega),qak (show ¬c<=90 by omega),qak (show ¬c<=57 by omega)];simp;omega
 rw [if_neg h1,if_neg (show ¬c>=65 by omega),if_neg (show ¬c>=48 by omega)];simp;omega
def zev (k c:Int):Bool:=
 if k=1 then zbc c==1 else if k=2 then c !=10 else if k=3 then decide (97<=c/\c<=122\/48<=c/\c<=57\/c=95\/c=45) else if k=4 then decide (65<=c/\c<=90)
 else if k=5 then decide (48<=c/\c<=57\/c=46\/c=47) else false
theorem zrh (c:Int):lex_isSmall.f c=some (decide (97<=c/\c<=122)):=by
 unfold lex_isSmall.f;by_cases h:c>=97
 ·rw [if_pos h];congr 1;by_cases m:c<=122
  ·rw [qac m,qac ⟨h,m⟩]
  rw [qak m,qak (fun n=>m n.2)]
 rw [if_neg h,qak (fun n=>h n.1)]
theorem zsa (c:Int):lex_isGreat.f c=some (decide (65<=c/\c<=90)):=by
 unfold lex_isGreat.f;by_cases h:c>=65
 ·rw [if_pos h];congr 1;by_cases m:c<=90
  ·rw [qac m,qac ⟨h,m⟩]
  rw [qak m,qak (fun n=>m n.2)]
 rw [if_neg h,qak (fun n=>h n.1)]
theorem zoo (c:Int):lex_isDigit.f c=some (decide (48<=c/\c<=57)):=by
 unfold lex_isDigit.f;by_cases h:c>=48
 ·rw [if_pos h];congr 1;by_cases m:c<=57
  ·rw [qac m,qac ⟨h,m⟩]
  rw [qak m,qak (fun n=>m n.2)]
 rw [if_neg h,qak (fun n=>h n.1)]
theorem lex_goes_eq (k c:Int):lex_goesOn.f k c=some (zev k c):=by
 unfold lex_goesOn.f zev;by_cases h1:k=1
 ·rw [if_pos h1,if_pos h1,zgw];rfl
 rw [if_neg h1,if_neg h1];by_cases m:k=2
 ·rw [if_pos m,if_pos m]
 rw [if_neg m,if_neg m];by_cases n:k=3
 ·rw [if_pos n,if_pos n,zrh];simp only [qam];by_cases a:97<=c/\c<=122
  ·rw [if_pos (qac a),qac (.inl a)]
  rw [if_neg (by simpa using a),zoo];simp only [qam];by_cases b:48<=c/\c<=57
  ·rw [if_pos (qac b),qac (.inr (.inl b))]
  rw [if_neg (by simpa using b)];by_cases d:c=95
  ·rw [if_pos d,qac (.inr (.inr (.inl d)))]
  rw [if_neg d];by_cases e:c=45
  ·rw [qac (.inr (.inr (.inr e)))];simp [e]
  rw [qak kab];simp [e]
 rw [if_neg n,if_neg n];by_cases p:k=4
 ·rw [if_pos p,if_pos p,zsa];rfl
 rw [if_neg p,if_neg p];by_cases q:k=5
 ·rw [if_pos q,if_pos q,zoo];simp only [qam];by_cases b:48<=c/\c<=57
  ·rw [if_pos (qac b),qac (.inl b)]
  rw [if_neg (by simpa using b)];by_cases d:c=46
  ·rw [if_pos d,qac (.inr (.inl d))]
  rw [if_neg d];by_cases e:c=47
  ·rw [qac (.inr (.inr e))];simp [e]
  rw [qak kab];simp [e]
 rw [if_neg q,if_neg q]
end
section
def zlu:List ByteArray:=[sNot,zjt,zge,zfh,zfd,zcm,zid,zei,sHas]
theorem isIn_any (l:List ByteArray) (s:ByteArray):isIn l s=l.any fun w=>s.toList==w.toList:=by
 induction l with
 | nil=>rfl
 | cons a l m=>
  rw [zhn,m,List.any_cons];congr 1;by_cases h:a.toList=s.toList
  ·rw [qac h,h];simp
  rw [qak h];symm;rw [qah];exact fun e=>h e.symm
theorem text_C {w:World} {g:Nat} {l:List ByteArray} (hg:w.heap[g]?=some (.cells (zic l).toArray 9 (0,0))) (q:l.length<=1000):Kd.C Kd.string w (some ⟨g,0,none⟩) l.length l:=by
 have hr:Row w 0 9 1 (.slice (some ⟨g,0,none⟩) l.length l.length) l.length (zic l):=
  ⟨by rw [zhd,Nat.mul_one],.inr ⟨g,l.length,_,rfl,qbx _,hg,qad _,by simp only [maxLen];omega,by simp [zhd],by simp [<-zhd l]⟩⟩
 refine Row.C (d:=Kd.string) hr rfl fun j p m=>⟨[.string p],rfl,rfl,fun r hr=>?_⟩;have n:r=0:=by have:r<1:=hr;omega
 subst n;show (zic l)[j*1+0]?=_;rw [Nat.mul_one,Nat.add_zero,zic,List.getElem?_map,m];rfl
theorem text_C2 (w:World) (o:Obj) {l:List ByteArray} (m:l.length<=1000):Kd.C Kd.string ((w.alloc o).alloc (.cells (zic l).toArray 9)) (some ⟨w.heap.size+1,0,none⟩) l.length l:=by
 have h:=qab (w.alloc o) (.cells (zic l).toArray 9);rw [qae] at h;exact text_C h m
theorem begins_calls (W:World) (g T c:Nat) (toks:List Tok) (i:Nat) (t:Tok) (ht:toks[i]?=some t) (h:PSt W g T c toks i) :
  Calls prog 112 #[.pointer (some ⟨g,0,none⟩)] W fun e W'=>e = .returned (.bool (zdh t))/\Below W.heap.size W W':=by
 have n:=zq (zcv W g T c toks i t ht h);have r:=zq (fun (w:World) (A:Option Addr) (hr:Kd.C Kd.string w A zlu.length zlu)=>slices_Contains_string_string.calls 20 A 9 zlu t.text _ w hr (qad _) (zmi zlu t.text kad 20 kad));clear ht h;by_cases p:t.kind=2
 ·have m:zdh t=true:=by unfold zdh;rw [if_pos p]
  rw [m];go_enter func112,ntmps112;go_wp2_with (go_at_call 28;refine n.o.mono ?_;rintro e' w' ⟨rfl,m⟩);go_ret;exact ⟨rfl,m.alloc m.size _⟩
 by_cases q:t.kind=7
 ·have m:zdh t=(t.text.toList==zgb.toList):=by unfold zdh;rw [if_neg p,if_pos q]
  rw [m];go_enter func112,ntmps112;go_wp2_with (go_at_call 28;refine n.o.mono ?_;rintro e' w' ⟨rfl,m⟩);go_ret;refine ⟨?_,m.alloc m.size _⟩;rw [show zgb.toList=[40] from by kernel_rfl];rfl
 by_cases h1:t.kind=1
 ·have m:zdh t=isIn zlu t.text:=by unfold zdh;rw [if_neg p,if_neg q,if_pos h1,isIn_any];rfl
  rw [m];go_enter func112,ntmps112;go_wp2_with (first
   | (go_at_call 28;refine n.o.mono ?_;rintro e' w' ⟨rfl,m⟩;clear n)
   | (go_at_call 97;refine (r.o _ _ (text_C2 _ _ (l:=zlu) kad)).mono ?_;rintro s u ⟨rfl,hd⟩))
  go_ret;have hs:=m.size;exact ⟨rfl,(((m.alloc m.size _).alloc kbl _).trans (hd.below.mono kbl))⟩
 have m:zdh t=false:=by unfold zdh;rw [if_neg p,if_neg q,if_neg h1]
 rw [m];go_enter func112,ntmps112;go_wp2_with (go_at_call 28;refine n.o.mono ?_;rintro e' w' ⟨rfl,m⟩);go_ret;exact ⟨rfl,m.alloc m.size _⟩
end
section
abbrev tokO (t:Tok):Obj := .cells #[.int .i64 t.kind,.string t.text,.int .i64 t.num,.int .i64 t.pa,.int .i64 t.pb,.int .i64 t.place] 49
abbrev tokK (k:Int) (t:Tok):Obj := .cells #[.int .i64 k,.string t.text,.int .i64 t.num,.int .i64 t.pa,.int .i64 t.pb,.int .i64 t.place] 49
def zjq (W:World) (g T c:Nat) (toks:List Tok) (r:PR CD):Ending->World->Prop:=
 EndP r (fun x j e W'=>∃ cs L,e = .returned (.agg cs.toArray)/\Tree W' W.heap.size x.1 cs L/\PSt W' g T c toks j/\Fr W W' (·=g)/\j<toks.length/\Dep x.1 x.2/\x.2<=16/\L.Nodup) (fun W'=>Fr W W' (·=g))
def zix (g T c:Nat) (toks:List Tok) (f:Nat) (P:Nat->Option (PR CD)):Prop:=
 ∀ W i res,i<toks.length->PSt W g T c toks i->P i=some res->Calls prog f #[.pointer (some ⟨g,0,none⟩)] W (zjq W g T c toks res)
theorem Tree.fr {W W1:World} {b:Nat} {x:S60} {cs:List Value} {L:List Nat} {S:Nat->Prop} (h:Tree W b x cs L) (hF:Fr W W1 S) (hn:∀ g∈L,¬S g):Tree W1 b x cs L:=
 h.frame fun g hg=>hF.block g (h.lt g hg).2 (hn g hg)
theorem zax {W:World} {b:Nat} {x:S60} {cs:List Value} {L:List Nat} (h:Tree W b x cs L) :
  ∃ v3 v4 v5 m,cs=[.int .i64 x.f0,.string x.f1,.string x.f2,v3,v4,v5,m,.int .i64 x.f7]/\v3.cells.size=1/\v4.cells.size=1/\v5.cells.size=1/\m.cells.size=1/\∃ n n3 c3 p n4 c4 A5 q c5 A6 n6 c6,v3 = .slice n n3 c3/\v4 = .slice p n4 c4/\v5 = .slice A5 q c5/\m = .slice A6 n6 c6:=by
 obtain ⟨n,c3,p,c4,A5,c5,A6,c6,rfl,-⟩:=zci h.K;exact ⟨_,_,_,_,rfl,rfl,rfl,rfl,rfl,_,_,_,_,_,_,_,_,_,_,_,_,rfl,rfl,rfl,rfl⟩
theorem zeb {w:World} {m:Nat} {v0 v1 v2 v3 v4 v5 n p:Value} (h:w.heap[m]?=some (.cells #[v0,v1,v2,v3,v4,v5,n,p] 60 (0,0))) :
  w.cell? ⟨m,0,none⟩=some v0/\w.cell? ⟨m,1,none⟩=some v1/\w.cell? ⟨m,2,none⟩=some v2/\w.cell? ⟨m,3,none⟩=some v3/\w.cell? ⟨m,4,none⟩=some v4/\w.cell? ⟨m,5,none⟩=some v5/\w.cell? ⟨m,6,none⟩=some n/\w.cell? ⟨m,7,none⟩=some p:=
 ⟨zab h 0,zab h 1,zab h 2,zab h 3,zab h 4,zab h 5,zab h 6,zab h 7⟩
theorem zbk {w:World} {m:Nat} {v0 v1 v2 v3 v4 v5:Value} (h:w.heap[m]?=some (.cells #[v0,v1,v2,v3,v4,v5] 49 (0,0))) :
  w.cell? ⟨m,0,none⟩=some v0/\w.cell? ⟨m,1,none⟩=some v1/\w.cell? ⟨m,2,none⟩=some v2/\w.cell? ⟨m,3,none⟩=some v3/\w.cell? ⟨m,4,none⟩=some v4/\w.cell? ⟨m,5,none⟩=some v5:=
 ⟨zab h 0,zab h 1,zab h 2,zab h 3,zab h 4,zab h 5⟩
theorem Tree.leaf_nodup {W:World} {b:Nat} {x:S60} {cs:List Value} {L:List Nat} (h:Tree W b x cs L) (p:x.f6=[]):L.Nodup:=by
 obtain ⟨vp,vs,vn,vk,cells,M,-,rfl,hp,hs,hn,hk,hf⟩:=h.open_;rw [p] at hf;cases hf;have one:∀ v:Value,(Blk v).Nodup:=fun v=>by unfold Blk;cases v.ownBlock<;>simp
 have two:∀ {u v:Value},(u.ownBlock=none\/u.ownBlock≠v.ownBlock)->∀ a∈Blk u,∀ b∈Blk v,a≠b:=fun {u v} h a m b n e=>by
  rw [zqt] at m n;rcases h with h|h
  ·rw [h] at m;cases m
  exact h (by rw [m,n,e])
 rw [List.append_nil,List.nodup_append,List.nodup_append,List.nodup_append];refine ⟨⟨⟨one _,one _,two (hp.apart hs kad)⟩,one _,?_⟩,one _,?_⟩
 ·intro a m b n;rcases qbi.1 m with m|m
  ·exact two (hp.apart hn kad) a m b n
  exact two (hs.apart hn kad) a m b n
 intro a m b n;rcases qbi.1 m with m|m
 ·rcases qbi.1 m with m|m
  ·exact two (hp.apart hk kad) a m b n
  exact two (hs.apart hk kad) a m b n
 exact two (hn.apart hk kad) a m b n
section
variable (g T c:Nat) (toks:List Tok) (aa:∀ k,k<toks.length->(tk toks k).kind≠8->k+1<toks.length)
include aa
theorem first_bracket (k:Nat) (a7:zix g T c toks 54 (zce toks k 0)) (W:World) (i:Nat) (res:PR CD) (hi:i<toks.length) (hs:PSt W g T c toks i) (hb:isT (tk toks i) zgb=true) (n:zce toks (k+1) 3 i=some res) :
  Calls prog 144 #[.pointer (some ⟨g,0,none⟩)] W (zjq W g T c toks res):=by
 have hg:=hs.lts.1;have hT:=hs.lts.2.1;have aE:=aa i hi (zcd hb);have D:=zq (fun W' (z:PSt W' g T c toks i)=>zcv W' g T c toks i _ (zdp toks hi) z);have y:=zq (fun W' (z:PSt W' g T c toks i)=>zcp W' g T c toks i _ (zdp toks hi) zgb z);simp only [hb,if_true] at y;have ae:=zq (hs.alloc (.cells zbe 60));have aD:=zq (qab W (.cells zbe 60));have Z:=zq (Fr.refl (W.alloc (.cells zbe 60)) (·=g));unfold zce at n;rw [if_pos hb] at n;clear hs;cases a1:zce toks k 0 (i+1) with
 | none=>rw [a1] at n;cases n
 | some r=>
 rw [a1] at n;have I:=zq (fun W' z=>a7 W' (i+1) r aE z a1);clear a7;cases r with
 | bad ke pe=>
  have n:=qaa n;subst n;go_enter func144,ntmps144;go_wp2_with (first
   | (go_at_call 28;refine (D.o _ ae.o).mono ?_;rintro e1 w1 ⟨rfl,p⟩;have ab:=zq ((ae.o.below p).alloc (tokO (tk toks i)));have an:=zq ((Z.o.trans (Fr.of_below p)).alloc (tokO (tk toks i)));clear p D)
   | (go_at_call 78;refine (y.o _ ab.o).mono ?_;rintro e2 w2 ⟨rfl,m,hF⟩;have M:=zq m;have B:=zq (an.o.trans hF);clear m hF y)
   | (go_at_call 54;refine (I.o _ M.o).mono ?_;rintro e3 E ⟨rfl,hF⟩))
  exact ⟨rfl,rfl,((Fr.refl W (·=g)).alloc _).trans (B.o.trans hF)⟩
 | ok x j=>
  have n:=qaa n;have J:=zq (fun W' w (z:PSt W' g T c toks j)=>zeh W' g T c toks j _ (zdp toks w) zhf z);unfold zdg at n;by_cases U:isT (tk toks j) zhf=true
  ·rw [if_pos U] at n;simp only [if_pos U] at J;subst n;have aF:j<toks.length->j+1<toks.length:=fun w=>aa j w (zcd U);go_enter func144,ntmps144;go_wp2_with (first
    | (go_at_call 28;refine (D.o _ ae.o).mono ?_;rintro e1 w1 ⟨rfl,p⟩;have ab:=zq ((ae.o.below p).alloc (tokO (tk toks i)));have an:=zq ((Z.o.trans (Fr.of_below p)).alloc (tokO (tk toks i)));clear p D)
    | (go_at_call 78;refine (y.o _ ab.o).mono ?_;rintro e2 w2 ⟨rfl,m,hF⟩;have M:=zq m;have B:=zq (an.o.trans hF);clear m hF y)
    | (go_at_call 54;refine (I.o _ M.o).mono ?_;rintro e3 E ⟨cs,L,rfl,A,m,hF,w,O,hd,a6⟩;obtain ⟨v3,v4,v5,v6,rfl,-,-,-,-,q,n3,c3,s,n4,c4,A5,u,c5,A6,n6,c6,rfl,rfl,rfl,rfl⟩:=zax A;have ad:=zq (m.alloc (.cells #[.int .i64 x.1.f0,.string x.1.f1,.string x.1.f2,(.slice q n3 c3),(.slice s n4 c4),(.slice A5 u c5),(.slice A6 n6 c6),.int .i64 x.1.f7] 60));have G:=zq ((B.o.trans hF).alloc (.cells #[.int .i64 x.1.f0,.string x.1.f1,.string x.1.f2,(.slice q n3 c3),(.slice s n4 c4),(.slice A5 u c5),(.slice A6 n6 c6),.int .i64 x.1.f7] 60));have HM:=zq (qab E (.cells #[.int .i64 x.1.f0,.string x.1.f1,.string x.1.f2,(.slice q n3 c3),(.slice s n4 c4),(.slice A5 u c5),(.slice A6 n6 c6),.int .i64 x.1.f7] 60));have X:=zq A;have HD:=zq O;have aB:=zq hF;clear m hF I A O)
    | (go_at_call 53;refine (J.o _ w ad.o).mono ?_;rintro e4 w4 ⟨⟨rfl,m⟩,hF⟩;have aC:=zq m;have aA:=zq (G.o.trans hF);have Y:=(G.o).size;have hN:=(G.o.trans hF).blk aD.o kah;obtain ⟨y0,y1,y2,y3,y4,y5,y6,y7,z0,z1,z2,z3,z4,z5,z6,z7⟩:=zaw hN;obtain ⟨q0,q1,q2,q3,q4,q5,q6,q7⟩:=zeb (hF.blk HM.o (by rw [qae,qae] at Y;show ¬E.heap.size=g;omega));have HN:=zq hN;have a8:=zq (((Fr.refl E (·=g)).alloc (.cells #[.int .i64 x.1.f0,.string x.1.f1,.string x.1.f2,.slice q n3 c3,.slice s n4 c4,.slice A5 u c5,.slice A6 n6 c6,.int .i64 x.1.f7] 60)).trans hF);clear m hF J hN Y))
   obtain ⟨R1,R2,R3⟩:=zdw hg hT HN.o aC.o (((Fr.refl W (·=g)).alloc _).trans aA.o) (.int .i64 x.1.f0) (.string x.1.f1) (.string x.1.f2) (.slice q n3 c3) (.slice s n4 c4) (.slice A5 u c5) (.slice A6 n6 c6) (.int .i64 x.1.f7);refine qaf (qau rfl _ _ W.heap.size 60 #[.int .i64 x.1.f0,.string x.1.f1,.string x.1.f2,.slice q n3 c3,.slice s n4 c4,.slice A5 u c5,.slice A6 n6 c6,.int .i64 x.1.f7] (0,0) _ rfl R1 underlying60 rfl kae) rfl ?_;have Y:=B.o.size;rw [qae] at Y;exact ⟨_,_,rfl,((X.o.fr a8.o fun g' af e=>by have:=(X.o.lt g' af).1;omega).fr (zbo _ _ _ _ _ _ _ _ _ _) fun g' af e=>by have:=(X.o.lt g' af).1;omega).lower kab,R2,R3,aF w,HD.o,hd,a6⟩
  rw [if_neg U] at n;simp only [if_neg U] at J;subst n;go_enter func144,ntmps144;go_wp2_with (first
   | (go_at_call 28;refine (D.o _ ae.o).mono ?_;rintro e1 w1 ⟨rfl,p⟩;have ab:=zq ((ae.o.below p).alloc (tokO (tk toks i)));have an:=zq ((Z.o.trans (Fr.of_below p)).alloc (tokO (tk toks i)));clear p D)
   | (go_at_call 78;refine (y.o _ ab.o).mono ?_;rintro e2 w2 ⟨rfl,m,hF⟩;have M:=zq m;have B:=zq (an.o.trans hF);clear m hF y)
   | (go_at_call 54;refine (I.o _ M.o).mono ?_;rintro e3 E ⟨cs,L,rfl,A,m,hF,w,O,hd,a6⟩;obtain ⟨v3,v4,v5,v6,rfl,-,-,-,-,q,n3,c3,s,n4,c4,A5,u,c5,A6,n6,c6,rfl,rfl,rfl,rfl⟩:=zax A;have ad:=zq (m.alloc (.cells #[.int .i64 x.1.f0,.string x.1.f1,.string x.1.f2,(.slice q n3 c3),(.slice s n4 c4),(.slice A5 u c5),(.slice A6 n6 c6),.int .i64 x.1.f7] 60));have G:=zq ((B.o.trans hF).alloc (.cells #[.int .i64 x.1.f0,.string x.1.f1,.string x.1.f2,(.slice q n3 c3),(.slice s n4 c4),(.slice A5 u c5),(.slice A6 n6 c6),.int .i64 x.1.f7] 60));have HM:=zq (qab E (.cells #[.int .i64 x.1.f0,.string x.1.f1,.string x.1.f2,(.slice q n3 c3),(.slice s n4 c4),(.slice A5 u c5),(.slice A6 n6 c6),.int .i64 x.1.f7] 60));have X:=zq A;have HD:=zq O;have aB:=zq hF;clear m hF I A O)
   | (go_at_call 53;refine (J.o _ w ad.o).mono ?_;rintro e4 w4 ⟨rfl,hF⟩))
  exact ⟨rfl,rfl,((Fr.refl W (·=g)).alloc _).trans (G.o.trans hF)⟩
theorem first_name (k:Nat) (W:World) (i:Nat) (res:PR CD) (hi:i<toks.length) (hs:PSt W g T c toks i) (hk:(tk toks i).kind=2) (m:zce toks (k+1) 3 i=some res) :
  Calls prog 144 #[.pointer (some ⟨g,0,none⟩)] W (zjq W g T c toks res):=by
 have hg:=hs.lts.1;have O:=hs.lts.2.1;have hm:=hs.many;have X:=aa i hi kab;have x:isT (tk toks i) zgb=false:=by
  cases h:isT (tk toks i) zgb with
  | false=>rfl
  | true=>unfold isT at h;rw [hk] at h;simp at h
 have w:=zq (fun W' (q:PSt W' g T c toks i)=>zcv W' g T c toks i _ (zdp toks hi) q);have n:=zq (fun W' (q:PSt W' g T c toks i)=>zcp W' g T c toks i _ (zdp toks hi) zgb q);simp only [x,qbt,if_false] at n;have ae:=zq (hs.alloc (.cells zbe 60));have G:=zq (qab W (.cells zbe 60));have z:=zq (Fr.refl (W.alloc (.cells zbe 60)) (·=g));unfold zce at m;rw [if_neg (by simp [x]),if_pos hk] at m;have m:=qaa m;subst m;clear hs;go_enter func144,ntmps144;go_wp2_with (first
  | (go_at_call 28;refine (w.o _ ae.o).mono ?_;rintro Y w1 ⟨rfl,u⟩;have ab:=zq ((ae.o.below u).alloc (tokK 2 (tk toks i)));have an:=zq ((z.o.trans (Fr.of_below u)).alloc (tokK 2 (tk toks i)));have B:=zq (qab w1 (tokK 2 (tk toks i)));clear u w)
  | (go_at_call 78;refine (n.o _ ab.o).mono ?_;rintro Z w2 ⟨rfl,s,hF⟩;have y:=an.o.size;rw [qae,qae] at y;obtain ⟨s0,s1,s2⟩:=s.facts;obtain ⟨q0,q1,q2,q3,q4,q5⟩:=zbk (hF.blk B.o (by show ¬w1.heap.size=g;omega));have ad:g≠w1.heap.size:=kab;have U:g≠W.heap.size:=kab;have r:=(an.o.trans hF).blk G.o kah;obtain ⟨y0,y1,y2,y3,y4,y5,y6,y7,z0,z1,z2,z3,z4,z5,z6,z7⟩:=zaw r;have D:=zq r;have E:=zq s;have A:=zq (an.o.trans hF);clear s hF n r y))
 have M:=A.o.setCell (p:=⟨g,1,none⟩) (.inl rfl) (.int .i64 ((i:Int)+1));obtain ⟨I,J,L⟩:=zdw hg O (zav (p:=⟨g,1,none⟩) D.o (fun e=>U e.symm) (.int .i64 ((i:Int)+1))) E.o.step (((Fr.refl W (·=g)).alloc _).trans M) (.int .i64 3) (.string (tk toks i).text) (.string ⟨#[]⟩) (.slice none 0 0) (.slice none 0 0) (.slice none 0 0) (.slice none 0 0) (.int .i64 (tk toks i).place);refine qaf (qau rfl _ _ W.heap.size 60 #[.int .i64 3,.string (tk toks i).text,.string ⟨#[]⟩,.slice none 0 0,.slice none 0 0,.slice none 0 0,.slice none 0 0,.int .i64 (tk toks i).place] (0,0) _ rfl I underlying60 rfl kae) rfl ?_;exact ⟨_,_,rfl,.mk (Row.nil _ _ _ _) (Row.nil _ _ _ _) (Row.nil _ _ _ _) (Row.nil _ _ _ _) .nil,J,L,X,zlb rfl,by show 1<=16;decide,by simp [Blk,Value.ownBlock]⟩
end
end
section
theorem zqp (W:World) (b ty sz n:Nat) (xs:List Value) (p:b<=W.heap.size) (m:xs.length=n*sz) (q:n<=maxLen):Row (W.alloc (.cells xs.toArray ty)) b ty sz (.slice (some ⟨W.heap.size,0,none⟩) n n) n xs:=
 ⟨m,.inr ⟨_,n,_,rfl,p,qab W _,qad _,q,by simp [m],by simp [<-m]⟩⟩
theorem zlx {W:World} {b:Nat} {kids:List S60} {cells:List Value} {L:List Nat} {vk:Value} (kd pl:Int) (hk:Row W b 60 8 vk kids.length cells) (hf:Forest W b kids cells L) :
  Tree W b ⟨kd,⟨#[]⟩,⟨#[]⟩,[],[],[],kids,pl⟩ [.int .i64 kd,.string ⟨#[]⟩,.string ⟨#[]⟩,.slice none 0 0,.slice none 0 0,.slice none 0 0,vk,.int .i64 pl] (Blk vk++L):=
 Tree.mk (x:=⟨kd,⟨#[]⟩,⟨#[]⟩,[],[],[],kids,pl⟩) (Row.nil _ _ _ _) (Row.nil _ _ _ _) (Row.nil _ _ _ _) hk hf
theorem Tree.alloc {W:World} {b:Nat} {x:S60} {cs:List Value} {L:List Nat} (h:Tree W b x cs L) (o:Obj):Tree (W.alloc o) b x cs L:=h.frame fun g hg=>qbm W o g (h.lt g hg).2
theorem zoe {W:World} {b:Nat} {c:S60} {cs:List Value} {L:List Nat} (h:Tree W b c cs L) (n:b<=W.heap.size) (kd pl:Int) {m:Nat} (p:W.heap.size=m) :
  Tree (W.alloc (.cells cs.toArray 60)) b ⟨kd,⟨#[]⟩,⟨#[]⟩,[],[],[],[c],pl⟩ [.int .i64 kd,.string ⟨#[]⟩,.string ⟨#[]⟩,.slice none 0 0,.slice none 0 0,.slice none 0 0,.slice (some ⟨m,0,none⟩) 1 1,.int .i64 pl] (m::L):=by
 subst p;have hr:=zqp W b 60 8 1 cs n h.length (by unfold maxLen;omega);have hf:Forest (W.alloc (.cells cs.toArray 60)) b [c] (cs++[]) (L++[]) := .cons (h.alloc _) .nil;rw [List.append_nil,List.append_nil] at hf;exact zlx (kids:=[c]) kd pl hr hf
theorem ztq {c:S60} {d:Nat} (h:Dep c d) (hd:d<=1000) (kd pl:Int):Dep ⟨kd,⟨#[]⟩,⟨#[]⟩,[],[],[],[c],pl⟩ (d+1):=by
 have:=zop (x:=⟨kd,⟨#[]⟩,⟨#[]⟩,[],[],[],[c],pl⟩) (d:=max 0 d) (by simp) kab (.cons h (.nil _));rwa [Nat.zero_max] at this
section
variable (g T c:Nat) (toks:List Tok) (aa:∀ k,k<toks.length->(tk toks k).kind≠8->k+1<toks.length)
include aa
theorem not_reads (k:Nat) (A:zix g T c toks 115 (zce toks k 2)) (aA:zix g T c toks 144 (zce toks k 3)):zix g T c toks 115 (zce toks (k+1) 2):=by
 intro W i res hi hs p;have hg:=hs.lts.1;have hT:=hs.lts.2.1;have aI:=zsn;have B:=zq (fun W' (I:PSt W' g T c toks i)=>zcv W' g T c toks i _ (zdp toks hi) I);have w:=zq (fun W' (I:PSt W' g T c toks i)=>zcp W' g T c toks i _ (zdp toks hi) sNot I);have ae:=zq (hs.alloc (.cells zbe 60));have aD:=zq (qab W (.cells zbe 60));have af:=zq (Fr.refl (W.alloc (.cells zbe 60)) (·=g));unfold zce at p;clear hs;by_cases hb:isT (tk toks i) sNot=true
 ·have aH:=aa i hi (zcd hb);simp only [hb,if_true] at w;rw [if_pos hb] at p;cases hr:zce toks k 2 (i+1) with
  | none=>rw [hr] at p;cases p
  | some r=>
  rw [hr] at p;have D:=zq (fun W' I=>A W' (i+1) r aH I hr);clear A aA hr;cases r with
  | bad ke pe=>
   have p:=qaa p;subst p;go_enter func115,ntmps115;go_wp2_with (first
    | (go_at_call 28;refine (B.o _ ae.o).mono ?_;rintro e1 w1 ⟨rfl,n⟩;have ab:=zq (ae.o.below n);have an:=zq (af.o.trans (Fr.of_below n));clear n B)
    | (go_at_call 78;refine (w.o _ ab.o).mono ?_;rintro e2 w2 ⟨rfl,m,hF⟩;have E:=zq m;have u:=zq (an.o.trans hF);clear m hF w)
    | (go_at_call 115;refine (D.o _ E.o).mono ?_;rintro e3 M ⟨rfl,hF⟩))
   exact ⟨rfl,rfl,((Fr.refl W (·=g)).alloc _).trans (u.o.trans hF)⟩
  | ok x j=>
   have p:=qaa p;unfold zkc at p;by_cases Z:x.2+1>16
   ·rw [if_pos Z] at p;subst p;have a6:=zq Z;clear Z;go_enter func115,ntmps115;go_wp2_with (first
     | (go_at_call 28;refine (B.o _ ae.o).mono ?_;rintro e1 w1 ⟨rfl,n⟩;have ab:=zq (ae.o.below n);have an:=zq (af.o.trans (Fr.of_below n));clear n B)
     | (go_at_call 78;refine (w.o _ ab.o).mono ?_;rintro e2 w2 ⟨rfl,m,hF⟩;have E:=zq m;have u:=zq (an.o.trans hF);clear m hF w)
     | (go_at_call 115;refine (D.o _ E.o).mono ?_;rintro e3 M ⟨cs,L,rfl,y,m,hF,hj,G,hd,J⟩;obtain ⟨v3,v4,v5,v6,rfl,-,-,-,-,q,n3,c3,s,n4,c4,A5,z,c5,A6,n6,c6,rfl,rfl,rfl,rfl⟩:=zax y;have O:=zq (((u.o.trans hF).alloc (.cells #[.int .i64 x.1.f0,.string x.1.f1,.string x.1.f2,(.slice q n3 c3),(.slice s n4 c4),(.slice A5 z c5),(.slice A6 n6 c6),.int .i64 x.1.f7] 60)).alloc (.cells #[.int .i64 x.1.f0,.string x.1.f1,.string x.1.f2,(.slice q n3 c3),(.slice s n4 c4),(.slice A5 z c5),(.slice A6 n6 c6),.int .i64 x.1.f7] 60));have ad:=zq (zhz _ (zoe (y.alloc (.cells #[.int .i64 x.1.f0,.string x.1.f1,.string x.1.f2,(.slice q n3 c3),(.slice s n4 c4),(.slice A5 z c5),(.slice A6 n6 c6),.int .i64 x.1.f7] 60)) (by rw [qae];have:=hF.size;omega) 4 (tk toks i).place (qae ..)) (ztq G kab 4 (tk toks i).place));simp only [if_pos a6.o] at ad;clear m hF D y G hd J)
     | (go_at_call 113;refine (ad.o).mono ?_;rintro e4 w4 ⟨rfl,Y⟩))
    exact ⟨rfl,rfl,((Fr.refl W (·=g)).alloc _).trans (O.o.trans (Fr.of_below Y))⟩
   rw [if_neg Z] at p;subst p;have a6:=zq Z;clear Z;go_enter func115,ntmps115;go_wp2_with (first
    | (go_at_call 28;refine (B.o _ ae.o).mono ?_;rintro e1 w1 ⟨rfl,n⟩;have ab:=zq (ae.o.below n);have an:=zq (af.o.trans (Fr.of_below n));clear n B)
    | (go_at_call 78;refine (w.o _ ab.o).mono ?_;rintro e2 w2 ⟨rfl,m,hF⟩;have E:=zq m;have u:=zq (an.o.trans hF);clear m hF w)
    | (go_at_call 115;refine (D.o _ E.o).mono ?_;rintro e3 M ⟨cs,L,rfl,y,m,hF,hj,G,hd,J⟩;obtain ⟨v3,v4,v5,v6,rfl,-,-,-,-,q,n3,c3,s,n4,c4,A5,z,c5,A6,n6,c6,rfl,rfl,rfl,rfl⟩:=zax y;have a8:=zq ((m.alloc (.cells #[.int .i64 x.1.f0,.string x.1.f1,.string x.1.f2,(.slice q n3 c3),(.slice s n4 c4),(.slice A5 z c5),(.slice A6 n6 c6),.int .i64 x.1.f7] 60)).alloc (.cells #[.int .i64 x.1.f0,.string x.1.f1,.string x.1.f2,(.slice q n3 c3),(.slice s n4 c4),(.slice A5 z c5),(.slice A6 n6 c6),.int .i64 x.1.f7] 60));have O:=zq (((u.o.trans hF).alloc (.cells #[.int .i64 x.1.f0,.string x.1.f1,.string x.1.f2,(.slice q n3 c3),(.slice s n4 c4),(.slice A5 z c5),(.slice A6 n6 c6),.int .i64 x.1.f7] 60)).alloc (.cells #[.int .i64 x.1.f0,.string x.1.f1,.string x.1.f2,(.slice q n3 c3),(.slice s n4 c4),(.slice A5 z c5),(.slice A6 n6 c6),.int .i64 x.1.f7] 60));have U:=zq (zoe (y.alloc (.cells #[.int .i64 x.1.f0,.string x.1.f1,.string x.1.f2,(.slice q n3 c3),(.slice s n4 c4),(.slice A5 z c5),(.slice A6 n6 c6),.int .i64 x.1.f7] 60)) (by rw [qae];have:=hF.size;omega) 4 (tk toks i).place (qae ..));have HD:=zq (ztq G kab 4 (tk toks i).place);have ad:=zq (zhz _ U.o HD.o);simp only [if_neg a6.o] at ad;have a7:=zq (List.nodup_cons.2 ⟨fun hm=>by have:=(y.lt _ hm).2;omega,J⟩:((M.heap.size+1)::L).Nodup);have HJ:=zq hj;clear m hF D y G hd J hj)
    | (go_at_call 113;refine (ad.o).mono ?_;rintro e4 w4 ⟨rfl,Y⟩;have aF:=zq (a8.o.below Y);have aB:=zq (O.o.trans (Fr.of_below Y));have aC:=zq (U.o.frame fun X a1=>Y.block X (U.o.lt X a1).2);have A:=aB.o.blk aD.o kah;obtain ⟨y0,y1,y2,y3,y4,y5,y6,y7,z0,z1,z2,z3,z4,z5,z6,z7⟩:=zaw A;have HN:=zq A;clear Y A))
   obtain ⟨R1,R2,R3⟩:=zdw hg hT HN.o aF.o (((Fr.refl W (·=g)).alloc _).trans aB.o) (.int .i64 4) (.string ⟨#[]⟩) (.string ⟨#[]⟩) (.slice none 0 0) (.slice none 0 0) (.slice none 0 0) (.slice (some ⟨M.heap.size+1,0,none⟩) 1 1) (.int .i64 (tk toks i).place);refine qaf (qau rfl _ _ W.heap.size 60 #[.int .i64 4,.string ⟨#[]⟩,.string ⟨#[]⟩,.slice none 0 0,.slice none 0 0,.slice none 0 0,.slice (some ⟨M.heap.size+1,0,none⟩) 1 1,.int .i64 (tk toks i).place] (0,0) _ rfl R1 underlying60 rfl kae) rfl ?_;have aE:=u.o.size;rw [qae] at aE;exact ⟨_,_,rfl,(aC.o.fr (zbo _ _ _ _ _ _ _ _ _ _) fun X a1 e=>by have:=(aC.o.lt X a1).1;omega).lower kab,R2,R3,HJ.o,HD.o,by show x.2+1<=16;have:=a6.o;omega,a7.o⟩
 have aG:isT (tk toks i) sNot=false:=by simpa using hb
 simp only [aG,qbt,if_false] at w;rw [if_neg hb] at p;have D:=zq (fun W' I=>aA W' i res hi I p);clear A aA p;cases res with
 | bad ke pe=>
  go_enter func115,ntmps115;go_wp2_with (first
   | (go_at_call 28;refine (B.o _ ae.o).mono ?_;rintro e1 w1 ⟨rfl,n⟩;have ab:=zq (ae.o.below n);have an:=zq (af.o.trans (Fr.of_below n));clear n B)
   | (go_at_call 78;refine (w.o _ ab.o).mono ?_;rintro e2 w2 ⟨rfl,m,hF⟩;have E:=zq m;have u:=zq (an.o.trans hF);clear m hF w)
   | (go_at_call 144;refine (D.o _ E.o).mono ?_;rintro e3 M ⟨rfl,hF⟩))
  exact ⟨rfl,rfl,((Fr.refl W (·=g)).alloc _).trans (u.o.trans hF)⟩
 | ok x j=>
  go_enter func115,ntmps115;go_wp2_with (first
   | (go_at_call 28;refine (B.o _ ae.o).mono ?_;rintro e1 w1 ⟨rfl,n⟩;have ab:=zq (ae.o.below n);have an:=zq (af.o.trans (Fr.of_below n));clear n B)
   | (go_at_call 78;refine (w.o _ ab.o).mono ?_;rintro e2 w2 ⟨rfl,m,hF⟩;have E:=zq m;have u:=zq (an.o.trans hF);clear m hF w)
   | (go_at_call 144;refine (D.o _ E.o).mono ?_;rintro e3 M ⟨cs,L,rfl,y,m,hF,hj,G,hd,J⟩;obtain ⟨v3,v4,v5,v6,rfl,-,-,-,-,q,n3,c3,s,n4,c4,A5,z,c5,A6,n6,c6,rfl,rfl,rfl,rfl⟩:=zax y;have a8:=zq m;have O:=zq (u.o.trans hF);have A:=O.o.blk aD.o kah;obtain ⟨y0,y1,y2,y3,y4,y5,y6,y7,z0,z1,z2,z3,z4,z5,z6,z7⟩:=zaw A;have HN:=zq A;have U:=zq y;have HD:=zq G;have a7:=zq J;have au:=zq (show W.heap.size+1<=w2.heap.size from by have h1:=u.o.size;rw [qae] at h1;omega);clear m hF D y G A J))
  obtain ⟨R1,R2,R3⟩:=zdw hg hT HN.o a8.o (((Fr.refl W (·=g)).alloc _).trans O.o) (.int .i64 x.1.f0) (.string x.1.f1) (.string x.1.f2) (.slice q n3 c3) (.slice s n4 c4) (.slice A5 z c5) (.slice A6 n6 c6) (.int .i64 x.1.f7);refine qaf (qau rfl _ _ W.heap.size 60 #[.int .i64 x.1.f0,.string x.1.f1,.string x.1.f2,.slice q n3 c3,.slice s n4 c4,.slice A5 z c5,.slice A6 n6 c6,.int .i64 x.1.f7] (0,0) _ rfl R1 underlying60 rfl kae) rfl ?_;have aE:=u.o.size;exact ⟨_,_,rfl,(U.o.fr (zbo _ _ _ _ _ _ _ _ _ _) fun X a1 e=>by have:=(U.o.lt X a1).1;have:=au.o;omega).lower kca,R2,R3,hj,HD.o,hd,a7.o⟩
end
end
section
structure RowInv (W:World) (g T c:Nat) (toks:List Tok) (i:Nat) (l:List S60) (d:Nat) (v:Value) (W':World):Prop where
 st:PSt W' g T c toks i
 fr:Fr W W' (·=g)
 res:W'.heap[W.heap.size]?=some (.cells zbe 60 (0,0))
 row:∃ cells L,Row W' (W.heap.size+1) 60 8 v l.length cells/\Forest W' (W.heap.size+1) l cells L/\(∀ b,v.ownBlock=some b->b∉L)/\L.Nodup
 deps:DepsFrom 0 l d
 small:d<=16
 pos:0<l.length
 many:l.length<=32
 here:i<toks.length
theorem DepsFrom.one {c:S60} {d:Nat} (h:DepsFrom 0 [c] d):Dep c d:=by
 cases h with
 | @cons _ _ e _ _ h hr=>
  cases hr;rwa [Nat.zero_max]
section
variable {W W1 W2:World} {g T c i j d:Nat} {toks:List Tok} {l:List S60} {v:Value}
theorem Forest.fr {b:Nat} {cs:List Value} {L:List Nat} {S:Nat->Prop} (h:Forest W1 b l cs L) (hF:Fr W1 W2 S) (hn:∀ g∈L,¬S g):Forest W2 b l cs L:=
 h.frame fun g hg=>hF.block g (h.lt g hg).2 (hn g hg)
theorem RowInv.move (h:RowInv W g T c toks i l d v W1) (hg:g<W.heap.size) (s:PSt W2 g T c toks j) (hF:Fr W1 W2 (·=g)) (u:j<toks.length):RowInv W g T c toks j l d v W2:=by
 obtain ⟨cells,L,h1,p,q,r⟩:=h.row;exact ⟨s,h.fr.trans hF,hF.blk h.res kab,⟨cells,L,h1.fr hF (fun n m e=>by have:=(h1.blk m).1;omega),p.fr hF (fun n m e=>by have:=(p.lt n m).1;omega),q,r⟩,h.deps,h.small,h.pos,h.many,u⟩
theorem RowInv.start {x:S60} {cs:List Value} {L:List Nat} (hg:g<W.heap.size) (m:Tree W1 (W.heap.size+1) x cs L) (q:PSt W1 g T c toks j) (hF:Fr W W1 (·=g)) (hs:W.heap.size+1<=W1.heap.size) (w:W1.heap[W.heap.size]?=some (.cells zbe 60 (0,0))) (n:Dep x d) (hd:d<=16) (p:L.Nodup) (s:j<toks.length) :
  RowInv W g T c toks j [x] d (.slice (some ⟨W1.heap.size,0,none⟩) 1 1) (W1.alloc (.cells cs.toArray 60)):=by
 have hf:Forest (W1.alloc (.cells cs.toArray 60)) (W.heap.size+1) [x] (cs++[]) (L++[]) := .cons (m.alloc _) .nil;rw [List.append_nil,List.append_nil] at hf;refine ⟨q.alloc _,hF.alloc _,zaf w _,⟨cs,L,zqp W1 _ _ 8 1 cs hs m.length (by unfold maxLen;omega),hf,fun b r u=>?_,p⟩,?_,hd,by simp,by simp,s⟩
 ·have h1:=(m.lt b u).2;have:W1.heap.size=b:=by simpa [Value.ownBlock] using r
  omega
 have:=DepsFrom.cons n (.nil (max 0 d));rwa [Nat.zero_max] at this
theorem RowInv.snoc {e:Nat} {x:S60} {cs cells:List Value} {L M:List Nat} {v1:Value} {w1:World} (h:RowInv W g T c toks j l d v W2) (hg:g<W.heap.size) (Y:T<W.heap.size) (hl:l.length<32)
  (X:Row W2 (W.heap.size+1) 60 8 v l.length cells) (u:Forest W2 (W.heap.size+1) l cells L) (w:∀ b,v.ownBlock=some b->b∉L) (O:L.Nodup) {r:Nat} (I:W.heap.size+1<=r) (B:∀ g∈L,g<r) (z:∀ b,v.ownBlock=some b->b<r)
  (q:Tree W2 r x cs M) (A:Dep x e) (Z:e<=16) (D:M.Nodup)
  (U:Row w1 (W.heap.size+1) 60 8 v1 (l.length+1) (cells++cs)) (y:W2.grownBy w1 v.ownBlock) (m:v1.ownBlock=v.ownBlock\/v1.ownBlock=some (W2.heap.size+1)) (ad:v1.ownBlock≠none) :
  RowInv W g T c toks j (l++[x]) (max d e) v1 w1:=by
 have s:∀ b,v.ownBlock=some b->W.heap.size+1<=b:=fun b n=>(X.blk n).1;have far:∀ k,k<W2.heap.size->v.ownBlock≠some k->w1.heap[k]?=W2.heap[k]?:=fun k hk hn=>y.block k hk (fun e=>hn e.symm);have J:=h.st.lts.1;have E:=h.st.lts.2.1;refine ⟨h.st.blk (far g J fun e=>by have:=s g e;omega) (far T E fun e=>by have:=s T e;omega),h.fr.then_ (Fr.of_grown (S:=fun k=>some k=v.ownBlock) y (fun k hk=>hk.symm)) (fun k hk => .inr (by have:=s k hk.symm;omega)),(far _ (zam h.res) fun e=>by have:=s _ e;omega).trans h.res,⟨cells++cs,L++M,?_,?_,?_,?_⟩,h.deps.snoc A,by have:=h.small;omega,by simp,kbl,h.here⟩
 ·rw [qal];exact U
 ·refine Forest.snoc (u.frame fun k hk=>far k (u.lt k hk).2 fun e=>w k e hk) (Tree.lower I (q.frame fun k hk=>far k (q.lt k hk).2 fun e=>?_));have:=z k e;have:=(q.lt k hk).1;omega
 ·intro b n p;rcases qbi.1 p with p|p
  ·rcases m with m|m
   ·exact w b (m ▸ n) p
   have h1:=(u.lt b p).2;rw [n] at m;have:=qaa m;omega
  rcases m with m|m
  ·have:=z b (m ▸ n);have:=(q.lt b p).1;omega
  have h1:=(q.lt b p).2;rw [n] at m;have:=qaa m;omega
 rw [List.nodup_append];refine ⟨O,D,fun a G b n e=>?_⟩;have:=B a G;have:=(q.lt b n).1;omega
theorem RowInv.single {x:S60} (h:RowInv W g T c toks i [x] d v W1):∃ b cap cs L,v = .slice (some ⟨b,0,none⟩) 1 cap/\Zq (Tree W1 (W.heap.size+1) x cs L/\L.Nodup/\Dep x d) /\
  ∃ n n3 c3 p n4 c4 A5 q c5 A6 n6 c6,cs=[.int .i64 x.f0,.string x.f1,.string x.f2,.slice n n3 c3,.slice p n4 c4,.slice A5 q c5,.slice A6 n6 c6,.int .i64 x.f7]/\b≠W.heap.size /\
  W1.cell? ⟨b,0,none⟩=some (.int .i64 x.f0)/\W1.cell? ⟨b,1,none⟩=some (.string x.f1)/\W1.cell? ⟨b,2,none⟩=some (.string x.f2)/\W1.cell? ⟨b,3,none⟩=some (.slice n n3 c3)/\W1.cell? ⟨b,4,none⟩=some (.slice p n4 c4)/\W1.cell? ⟨b,5,none⟩=some (.slice A5 q c5)/\W1.cell? ⟨b,6,none⟩=some (.slice A6 n6 c6)/\W1.cell? ⟨b,7,none⟩=some (.int .i64 x.f7):=by
 obtain ⟨cells,L,h1,r,y,s⟩:=h.row;cases r with
 | @cons _ _ cs rs M N ht hr=>
  cases hr;obtain ⟨A,cap,rfl,B,w⟩:=h1.form;obtain ⟨b,cur,rfl,u,z,hh,_,_,_⟩:=w (by simp);obtain ⟨v3,v4,v5,D,rfl,-,-,-,-,n,n3,c3,p,n4,c4,A5,q,c5,A6,n6,c6,rfl,rfl,rfl,rfl⟩:=zax ht;have m:=h1.cell u;exact ⟨b,cap,_,M,rfl,⟨ht,by simpa using s,h.deps.one⟩,n,n3,c3,p,n4,c4,A5,q,c5,A6,n6,c6,rfl,kab,m 0 _ rfl,m 1 _ rfl,m 2 _ rfl,m 3 _ rfl,m 4 _ rfl,m 5 _ rfl,m 6 _ rfl,m 7 _ rfl⟩
theorem RowInv.several (kind:Int) (h:RowInv W g T c toks i l d v W1):∃ b cap L,v = .slice (some ⟨b,0,none⟩) l.length cap/\l.length<=cap /\
  Zq (Tree W1 (W.heap.size+1) ⟨kind,⟨#[]⟩,⟨#[]⟩,[],[],[],l,(l.head?.map (·.f7)).getD 0⟩ [.int .i64 kind,.string ⟨#[]⟩,.string ⟨#[]⟩,.slice none 0 0,.slice none 0 0,.slice none 0 0,.slice (some ⟨b,0,none⟩) l.length l.length,.int .i64 ((l.head?.map (·.f7)).getD 0)] L/\L.Nodup/\Dep ⟨kind,⟨#[]⟩,⟨#[]⟩,[],[],[],l,(l.head?.map (·.f7)).getD 0⟩ (d+1)) /\
  W1.cell? ⟨b,7,none⟩=some (.int .i64 ((l.head?.map (·.f7)).getD 0)):=by
 obtain ⟨cells,L,h1,m,n,p⟩:=h.row;obtain ⟨A,cap,rfl,q,w⟩:=h1.form;obtain ⟨b,cur,rfl,u,y,hh,_,_,_⟩:=w h.pos;have s:=h.pos;have z:=h.many;refine ⟨b,cap,b::L,rfl,q,⟨zlx kind _ h1.clip m,List.nodup_cons.2 ⟨n b rfl,p⟩,zop (by show l.length<=_;omega) (by have:=h.small;omega) h.deps⟩,?_⟩;cases l with
 | nil=>simp at s
 | cons x r=>
  cases m with
  | @cons _ _ cs rs M N ht hr=>
   obtain ⟨v3,v4,v5,B,rfl,-⟩:=zax ht;exact h1.cell u 7 _ rfl
end
section
variable (g T c:Nat) (toks:List Tok) (aa:∀ k,k<toks.length->(tk toks k).kind≠8->k+1<toks.length)
include aa
theorem zpi (fn:Nat) (kind:Int) (word:ByteArray) (part:Nat->Option (PR CD)) (b2:∀ w,(callFunc fn #[.pointer (some ⟨g,0,none⟩)]).run prog w = .ok (.enter fn #[.pointer (some ⟨g,0,none⟩)]) w)
  (bd:zix g T c toks fn part) (W:World) (K i:Nat) (res:PR CD) (hi:i<toks.length) (hs:PSt W g T c toks i) (O:rowP toks part kind word K i=some res) :
  Calls prog 79 #[.pointer (some ⟨g,0,none⟩),.int .i64 kind,.string word,.func (.func fn) #[.pointer (some ⟨g,0,none⟩)] #[]] W (zjq W g T c toks res):=by
 have hg:=hs.lts.1;have hT:=hs.lts.2.1;have aP:=zq bd;have HT:=zq (fun W' j D (q:PSt W' g T c toks j)=>zcp W' g T c toks j _ (zdp toks D) word q);have bq:=zq (fun W' j D (q:PSt W' g T c toks j)=>begins_calls W' g T c toks j _ (zdp toks D) q);have bu:=zq (fun W' j e D (q:PSt W' g T c toks j)=>zer W' g T c toks j _ (zdp toks D) e q);have HN:=zq aa;have ae:=zq (hs.alloc (.cells zbe 60));have aS:=zq (qab W (.cells zbe 60));have aJ:=zq ((Fr.refl W (·=g)).alloc (.cells zbe 60));unfold rowP at O;clear hs bd aa;cases hr:part i with
 | none=>rw [hr] at O;cases O
 | some r=>
 rw [hr] at O;have Z:=zq (fun W' q=>aP.o W' i r hi q hr);clear hr;cases r with
 | bad ke pe=>
  have O:=qaa O;subst O;go_enter func79,ntmps79;go_wp2_with ((with_reducible refine zda fn ?_);refine (Z.o _ ae.o).mono ?_;rintro U w1 ⟨rfl,hF⟩);exact ⟨rfl,rfl,aJ.o.trans hF⟩
 | ok x j=>
  have HR:=zq O;clear O;go_enter func79,ntmps79;go_wp2_with ((with_reducible refine zda fn ?_);refine (Z.o _ ae.o).mono ?_;rintro U w1 ⟨cs,L,rfl,X,n,hF,D,hD,hd,a6⟩;have aN:=hF.size;rw [qae] at X aN;obtain ⟨v3,v4,v5,v6,rfl,-,-,-,-,A3,n3,c3,A4,n4,c4,A5,n5,c5,A6,n6,c6,rfl,rfl,rfl,rfl⟩:=zax X;have HI:=zq (RowInv.start hg X n (aJ.o.trans hF) aN (hF.blk aS.o kah) hD hd a6 D);clear X n hF D hD hd a6 aN Z);go_loopg [9] K (fun k v wr=>∃ B:Nat,∃ l:List S60,∃ d:Nat,Zq (RowInv W g T c toks B l d v wr)/\Zq (rowL toks part kind word k B l d=some res));case atStart=>exact ⟨j,[x.1],x.2,HI,HR⟩
  case round=>
   clear HR HI ae aS aJ hi;obtain ⟨B,l,d,HX,HR⟩:=hrel;have hr:=HR.o;cases gk with
   | zero=>exact absurd hr (by simp [rowL])
   | succ k=>
   unfold rowL at hr;clear HR;obtain ⟨cells,L',bp,bx,aF,aH⟩:=HX.o.row;obtain ⟨A,cap,rfl,b1,-⟩:=bp.form;clear bp bx aF aH;have Y:=HX.o.here;have b4:=HX.o.pos;have b3:=HX.o.many;have p:=zq (fun W' q=>HT.o W' B Y q);by_cases hw:isT (tk toks B) word=true
   ·have J:=HN.o B Y (zcd hw);rw [if_pos hw] at hr;simp only [hw,if_true] at p;by_cases aV:l.length=32
    ·rw [if_pos aV] at hr;have hr:=qaa hr;subst hr;have aW:(l.length:Int)=32:=kab;have am:=zq (fun W' q=>bq.o W' (B+1) J q);have aO:=zq (fun W' e q=>bu.o W' (B+1) e J q);cases aY:zdh (tk toks (B+1)) with
     | true=>
      rw [aY] at am;go_wp2_with (first
       | (go_at_call 78;refine (p.o _ HX.o.st).mono ?_;rintro U w1 ⟨rfl,n,hF⟩;have ab:=zq (HX.o.move hg n hF J);clear n hF p)
       | (go_at_call 112;refine (am.o _ ab.o.st).mono ?_;rintro e2 w2 ⟨rfl,s⟩;have ad:=zq (ab.o.move hg (ab.o.st.below s) (Fr.of_below s) J);clear s am)
       | (go_at_call 51;refine (aO.o _ 92 ad.o.st).mono ?_;rintro e3 w3 ⟨rfl,s⟩))
      exact ⟨rfl,rfl,ad.o.fr.trans (Fr.of_below s)⟩
     | false=>
      rw [aY] at am;go_wp2_with (first
       | (go_at_call 78;refine (p.o _ HX.o.st).mono ?_;rintro U w1 ⟨rfl,n,hF⟩;have ab:=zq (HX.o.move hg n hF J);clear n hF p)
       | (go_at_call 112;refine (am.o _ ab.o.st).mono ?_;rintro e2 w2 ⟨rfl,s⟩;have ad:=zq (ab.o.move hg (ab.o.st.below s) (Fr.of_below s) J);clear s am)
       | (go_at_call 51;refine (aO.o _ 90 ad.o.st).mono ?_;rintro e3 w3 ⟨rfl,s⟩))
      exact ⟨rfl,rfl,ad.o.fr.trans (Fr.of_below s)⟩
    rw [if_neg aV] at hr;have aW:¬(l.length:Int)=32:=kab;cases hp:part (B+1) with
    | none=>rw [hp] at hr;cases hr
    | some r=>
    rw [hp] at hr;have Z:=zq (fun W' q=>aP.o W' (B+1) r J q hp);clear hp;cases r with
    | bad ke pe=>
     have hr:=qaa hr;subst hr;go_wp2_with (first
      | (go_at_call 78;refine (p.o _ HX.o.st).mono ?_;rintro U w1 ⟨rfl,n,hF⟩;have ab:=zq (HX.o.move hg n hF J);clear n hF p)
      | ((with_reducible refine zda fn ?_);refine (Z.o _ ab.o.st).mono ?_;rintro e2 w2 ⟨rfl,hF⟩))
     exact ⟨rfl,rfl,ab.o.fr.trans hF⟩
    | ok y m=>
     have HR:=zq hr;clear hr;go_wp2_with (first
      | (go_at_call 78;refine (p.o _ HX.o.st).mono ?_;rintro U w1 ⟨rfl,n,hF⟩;have ab:=zq (HX.o.move hg n hF J);clear n hF p)
      | ((with_reducible refine zda fn ?_);refine (Z.o _ ab.o.st).mono ?_;rintro e2 w2 ⟨cs,M,rfl,X,n,hF,D,hD,hd,a6⟩;obtain ⟨v3,v4,v5,v6,rfl,-,-,-,-,A3,n3,c3,A4,n4,c4,A5,n5,c5,A6,n6,c6,rfl,rfl,rfl,rfl⟩:=zax X;have ad:=zq (ab.o.move hg n hF D);obtain ⟨cells,L',aI,aG,aF,aH⟩:=ab.o.row;have aQ:=zq (aI.fr hF fun E I e=>by have:=(aI.blk I).1;omega);have br:=zq (aG.fr hF fun E I e=>by have:=(aG.lt E I).1;omega);have av:=zq (And.intro aF (And.intro aH (And.intro (fun b s=>(aG.lt b s).2:∀ b∈L',b<w1.heap.size) (fun b s=>(aI.blk s).2.1:∀ b,(Value.slice A l.length cap).ownBlock=some b->b<w1.heap.size))));have aD:=zq (And.intro X (And.intro hD (And.intro hd a6)));have au:=zq (show W.heap.size+1<=w1.heap.size from zam ab.o.res);have bv:=zq hF.size;clear X n hF D hD hd a6 aI aG aF aH Z)
      | ((with_reducible refine zas (b := .append) (xs:=#[.tmp 26,.tmp 29]) rfl ?_);at_builtin;(refine zbi (w0:=W) (W.heap.size+1) rfl (.tmp 26) (.tmp 29) 58 60 (.agg #[.int .i64 0,.string ⟨#[]⟩,.string ⟨#[]⟩,.slice none 0 0,.slice none 0 0,.slice none 0 0,.slice none 0 0,.int .i64 0]) 8 144 rfl rfl rfl rfl kad (.slice A l.length cap) l.length cells [.int .i64 y.1.f0,.string y.1.f1,.string y.1.f2,.slice A3 n3 c3,.slice A4 n4 c4,.slice A5 n5 c5,.slice A6 n6 c6,.int .i64 y.1.f7] rfl rfl rfl ?aU aQ.o ?aB ?aM ?aL ?_;(case aU=>intro u hu;simp at hu;rcases hu with rfl|rfl|rfl|rfl|rfl|rfl|rfl|rfl<;>rfl);(case aB=>have:=au.o;have:=bv.o;omega);(case aM=>simp only [maxLen];omega);(case aL=>omega);intro v1 w3 bk ba bc bb _;have bw:=zq (RowInv.snoc ad.o hg hT kab aQ.o br.o av.o.1 av.o.2.1 au.o av.o.2.2.1 av.o.2.2.2 aD.o.1 aD.o.2.1 aD.o.2.2.1 aD.o.2.2.2 bk ba bc bb);clear bk ba bc bb)))
     go_roundg k
     case measure=>omega
     case rel=>exact ⟨m,l++[y.1],max d y.2,bw,HR⟩
   rw [if_neg hw] at hr;have bz:isT (tk toks B) word=false:=(by simpa using hw);simp only [bz,qbt,if_false] at p;by_cases h1:l.length=1
   ·obtain ⟨a,rfl⟩:∃ a,l=[a]:=by
     cases l with
     | nil=>simp at h1
     | cons a r=>cases r with
      | nil=>exact ⟨a,rfl⟩
      | cons b r=>simp at h1
    have hr:=qaa hr;subst hr;go_wp2_with (go_at_call 78;refine (p.o _ HX.o.st).mono ?_;rintro U w1 ⟨rfl,n,hF⟩;have ab:=zq (HX.o.move hg n hF Y);obtain ⟨b,aT,cs,L1,hv,z,A3,n3,c3,A4,n4,c4,A5,n5,c5,A6,n6,c6,rfl,b0,q0,q1,q2,q3,q4,q5,q6,q7⟩:=ab.o.single;injection hv with a7 a8 aA;subst a7;subst aA;clear a8;obtain ⟨y0,y1,y2,y3,y4,y5,y6,y7,z0,z1,z2,z3,z4,z5,z6,z7⟩:=zaw ab.o.res;clear n hF p);obtain ⟨R1,R2,R3⟩:=zdw hg hT ab.o.res ab.o.st ab.o.fr (.int .i64 a.f0) (.string a.f1) (.string a.f2) (.slice A3 n3 c3) (.slice A4 n4 c4) (.slice A5 n5 c5) (.slice A6 n6 c6) (.int .i64 a.f7);refine qaf (qau rfl _ _ W.heap.size 60 #[.int .i64 a.f0,.string a.f1,.string a.f2,.slice A3 n3 c3,.slice A4 n4 c4,.slice A5 n5 c5,.slice A6 n6 c6,.int .i64 a.f7] (0,0) _ rfl R1 underlying60 rfl kae) rfl ?_;exact ⟨_,_,rfl,(z.o.1.fr (zbo _ _ _ _ _ _ _ _ _ _) fun E I e=>by have:=(z.o.1.lt E I).1;omega).lower kab,R2,R3,Y,z.o.2.2,ab.o.small,z.o.2.1⟩
   have hr:zkc ⟨kind,⟨#[]⟩,⟨#[]⟩,[],[],[],l,(l.head?.map (·.f7)).getD 0⟩ d B=res:=by
    revert hr;cases l with
    | nil=>intro hr;exact qaa hr
    | cons a r=>cases r with
     | nil=>exact absurd rfl h1
     | cons b r=>intro hr;exact qaa hr
   have aW:¬(l.length:Int)=1:=kab;have aZ:l.length<=140737488355328:=kab;unfold zkc at hr;by_cases af:d+1>16
   ·rw [if_pos af] at hr;subst hr;have aC:=zq af;clear af h1;go_wp2_with (go_at_call 78;refine (p.o _ HX.o.st).mono ?_;rintro U w1 ⟨rfl,n,hF⟩;have ab:=zq (HX.o.move hg n hF Y);obtain ⟨b,aT,L1,hv,aK,z,q7⟩:=ab.o.several kind;injection hv with a7 a8 aA;subst a7;subst aA;clear a8;have a1:=zq (fun (W':World) (h:W'.heap=w1.heap)=>zhz W' (z.o.1.frame fun g _=>by rw [h]) z.o.2.2);simp only [if_pos aC.o] at a1;clear n hF p);go_region_law (first
     | (go_simp;go_at_call 114;refine (zqb _ _ _ _ aK aZ).mono ?_;rintro e2 w2 ⟨rfl,hw⟩;subst w2)
     | (go_simp;go_at_call 113;refine (a1.o _ (by rfl)).mono ?_;rintro e4 w4 ⟨rfl,G⟩;refine dead (P:=prog) (w:=w4) ?hh ?_;(case hh=>exact And.intro rfl (And.intro rfl (ab.o.fr.trans (by first|exact (Fr.of_below G).undrew|exact Fr.of_below G))))))
    all_goals trivial
   rw [if_neg af] at hr;subst hr;have aC:=zq af;clear af h1;go_wp2_with (go_at_call 78;refine (p.o _ HX.o.st).mono ?_;rintro U w1 ⟨rfl,n,hF⟩;have ab:=zq (HX.o.move hg n hF Y);obtain ⟨b,aT,L1,hv,aK,z,q7⟩:=ab.o.several kind;injection hv with a7 a8 aA;subst a7;subst aA;clear a8;have a1:=zq (fun (W':World) (h:W'.heap=w1.heap)=>zhz W' (z.o.1.frame fun g _=>by rw [h]) z.o.2.2);simp only [if_neg aC.o] at a1;clear n hF p);go_region_law (first
    | (go_simp;go_at_call 114;refine (zqb _ _ _ _ aK aZ).mono ?_;rintro e2 w2 ⟨rfl,hw⟩;subst w2)
    | (go_simp;go_at_call 113;refine (a1.o _ (by rfl)).mono ?_;rintro e4 w4 ⟨rfl,G⟩;have aX:Fr w1 w4 (·=g):=(by first|exact (Fr.of_below G).undrew|exact Fr.of_below G);have aE:=zq (ab.o.move hg (by first|exact ab.o.st.drew.below G|exact ab.o.st.below G) aX Y);have aR:=zq (z.o.1.frame fun E I=>G.block E (z.o.1.lt E I).2);obtain ⟨y0,y1,y2,y3,y4,y5,y6,y7,z0,z1,z2,z3,z4,z5,z6,z7⟩:=zaw aE.o.res;clear aX G))
   (all_goals (try go_wp2));all_goals
    obtain ⟨R1,R2,R3⟩:=zdw hg hT aE.o.res aE.o.st aE.o.fr (.int .i64 kind) (.string ⟨#[]⟩) (.string ⟨#[]⟩) (.slice none 0 0) (.slice none 0 0) (.slice none 0 0) (.slice (some ⟨b,0,none⟩) l.length l.length) (.int .i64 ((l.head?.map (·.f7)).getD 0));refine qaf (qau rfl _ _ W.heap.size 60 #[.int .i64 kind,.string ⟨#[]⟩,.string ⟨#[]⟩,.slice none 0 0,.slice none 0 0,.slice none 0 0,.slice (some ⟨b,0,none⟩) l.length l.length,.int .i64 ((l.head?.map (·.f7)).getD 0)] (0,0) _ rfl R1 underlying60 rfl kae) rfl ?_;exact ⟨_,_,rfl,((aR.o.fr (zbo _ _ _ _ _ _ _ _ _ _) fun E I e=>by have:=(aR.o.lt E I).1;omega).lower kab),R2,R3,Y,z.o.2.2,by show d+1<=16;have:=aC.o;omega,z.o.2.1⟩
end
end
end Go.Proofs.YtjeekocidaogoaaGreatDoor.H
namespace Go.Proofs.YtjeekocidaogoaaGreatDoor.Hand
open Go.RowKit Go.Proofs.YtjeekocidaogoaaGreatDoorW.PrintWords Go.Proofs.YtjeekocidaogoaaGreatDoorW.PrintLast Go.Proofs.YtjeekocidaogoaaGreatDoorW.PrintMore
section
def MapS (W:World) (b:Nat) (l:List (ByteArray×Value)):Prop:=
 ∃ es clock,W.heap[b]?=some (.map es clock)/\es.toList.map (fun e=>(e.key,e.val))=l.map (fun p=>(Value.string p.1,p.2))
theorem zhj (W:World):MapS (W.alloc (.map #[] 0)) W.heap.size []:=⟨#[],0,qab W _,rfl⟩
theorem zkb (s:ByteArray):∀ (es:List MapEntry) (l:List (ByteArray×Value)) (i:Nat),es.map (fun e=>(e.key,e.val))=l.map (fun p=>(Value.string p.1,p.2))->(∀ p∈l,p.1≠s) ->
  Instr.findNow .string (.string s) es i=some none
 | [],_,_,_,_=>rfl
 | e::es,[],_,h,_=>by simp at h
 | e::es,p::l,i,h,hn=>by
  simp only [qcf,List.cons.injEq,qap] at h;have n:(s==p.1)=false:=by
   cases m:(s==p.1) with
   | false=>rfl
   | true=>exact absurd ((MapKept.bytes_beq _ _).1 m).symm (hn p (List.mem_cons_self ..))
  simp only [Instr.findNow,h.1.1,Instr.sameNow,n];exact zkb s es l (i+1) h.2 (fun q r=>hn q (qch _ r))
theorem znl (s:ByteArray) (v:Value):∀ (es:List MapEntry) (a b:List (ByteArray×Value)) (i:Nat),es.map (fun e=>(e.key,e.val))=(a++(s,v)::b).map (fun p=>(Value.string p.1,p.2))->(∀ p∈a,p.1≠s) ->
  ∃ j,Instr.findNow .string (.string s) es i=some (some (j,v))
 | [],a,b,_,h,_=>by simp at h
 | e::es,[],b,i,h,hn=>by
  simp only [List.nil_append,qcf,List.cons.injEq,qap] at h;have m:(s==s)=true:=(MapKept.bytes_beq _ _).2 rfl;refine ⟨i,?_⟩;simp only [Instr.findNow,h.1.1,Instr.sameNow,m,h.1.2]
 | e::es,p::a,b,i,h,hn=>by
  simp only [List.cons_append,qcf,List.cons.injEq,qap] at h;have m:(s==p.1)=false:=by
   cases n:(s==p.1) with
   | false=>rfl
   | true=>exact absurd ((MapKept.bytes_beq _ _).1 n).symm (hn p (List.mem_cons_self ..))
  simp only [Instr.findNow,h.1.1,Instr.sameNow,m];exact znl s v es a b (i+1) h.2 (fun q r=>hn q (qch _ r))
section
variable {P:Program} {W w1:World} {t k e:TypeId} {b:Nat} {l:List (ByteArray×Value)}
theorem MapS.lt (h:MapS W b l):b<W.heap.size:=by
 obtain ⟨es,c,m,_⟩:=h;exact (Array.getElem?_eq_some_iff.1 m).1
theorem MapS.blk (h:MapS W b l) (n:w1.heap[b]?=W.heap[b]?):MapS w1 b l:=by
 obtain ⟨es,c,m,r⟩:=h;exact ⟨es,c,n.trans m,r⟩
theorem MapS.alloc (h:MapS W b l) (o:Obj):MapS (W.alloc o) b l:=h.blk (qbm W o b h.lt)
theorem MapS.push (q:P.underlying t=some (.map k e)) (hk:P.underlying k=some .string) (h:MapS W b l) {s:ByteArray} (hs:∀ p∈l,p.1≠s) (v:Value) :
  ∃ W',(Instr.mapUpdate t (.map (some b)) (.string s) v).run P W = .ok () W'/\MapS W' b (l++[(s,v)])/\W.grownBy W' (some b):=by
 obtain ⟨es,c,m,n⟩:=h;have h1:=zkb s es.toList l 0 n hs;refine ⟨{ W with heap:=W.heap.setIfInBounds b (.map (es.push { key := .string s,val:=v,born:=c }) (c+1)) },?_,⟨_,_,(MapKept.heap_set m).1,?_⟩,⟨rfl,rfl,rfl,by simp,fun i _ hi=>(MapKept.heap_set m).2 i (fun e=>hi (by rw [e]))⟩⟩
 ·simp [Instr.mapUpdate,run_underlying q,MapKept.run_getObj_map m,MapKept.run_checkKey hk (k := .string s) trivial,MapKept.run_findKey hk h1,MapKept.run_setObj_map _ m,Result.andThen]
 simp [n]
theorem MapS.look (q:P.underlying t=some (.map k e)) (hk:P.underlying k=some .string) {a c:List (ByteArray×Value)} {s:ByteArray} {v:Value} (h:MapS W b (a++(s,v)::c)) (hs:∀ p∈a,p.1≠s) :
  (Instr.lookup t (.map (some b)) (.string s) true).run P W = .ok (.tuple #[v,.bool true]) W:=by
 obtain ⟨es,r,m,n⟩:=h;obtain ⟨j,h1⟩:=znl s v es.toList a c 0 n hs;simp [Instr.lookup,run_underlying q,MapKept.run_getObj_map m,MapKept.run_checkKey hk (k := .string s) trivial,MapKept.run_findKey hk h1,Result.andThen]
theorem MapS.look_none (q:P.underlying t=some (.map k e)) (hk:P.underlying k=some .string) {z:Value} (r:(zeroValue e).run P W = .ok z W) {s:ByteArray} (h:MapS W b l) (hs:∀ p∈l,p.1≠s) :
  (Instr.lookup t (.map (some b)) (.string s) true).run P W = .ok (.tuple #[z,.bool false]) W:=by
 obtain ⟨es,u,m,n⟩:=h;have h1:=zkb s es.toList l 0 n hs;simp [Instr.lookup,run_underlying q,MapKept.run_getObj_map m,MapKept.run_checkKey hk (k := .string s) trivial,MapKept.run_findKey hk h1,r,Result.andThen]
theorem MapS.look_any (u:P.underlying t=some (.map k e)) (hk:P.underlying k=some .string) {z:Value} (x:(zeroValue e).run P W = .ok z W) {s:ByteArray} (h:MapS W b l) :
  ∃ v ok,(Instr.lookup t (.map (some b)) (.string s) true).run P W = .ok (.tuple #[v,.bool ok]) W/\((∃ p∈l,p.1=s/\v=p.2)/\ok=true\/(∀ p∈l,p.1≠s)/\ok=false/\v=z):=by
 by_cases hs:∀ p∈l,p.1≠s
 ·exact ⟨z,false,h.look_none u hk x hs,.inr ⟨hs,rfl,rfl⟩⟩
 have:∃ a c v,l=a++(s,v)::c/\∀ p∈a,p.1≠s:=by
  clear h;induction l with
  | nil=>exact absurd (fun p hp=>by cases hp) hs
  | cons q r y=>
   by_cases n:q.1=s
   ·exact ⟨[],r,q.2,by rw [<-n];rfl,fun p hp=>by cases hp⟩
   obtain ⟨a,c,v,w,m⟩:=y (fun hr=>hs fun p hp=>by
    rcases qcj.1 hp with rfl|hp
    ·exact n
    exact hr p hp)
   exact ⟨q::a,c,v,by rw [w];rfl,fun p hp=>by
    rcases qcj.1 hp with rfl|hp
    ·exact n
    exact m p hp⟩
 obtain ⟨a,c,v,rfl,m⟩:=this;exact ⟨v,true,h.look u hk m,.inl ⟨⟨_,qbi.2 (.inr (List.mem_cons_self ..)),rfl,rfl⟩,rfl⟩⟩
theorem zks {l:List (ByteArray×Value)} {s:ByteArray} (h:(l.all fun p=>!(p.1==s))=true):∀ p∈l,p.1≠s:=by
 intro p hp m;have:=qbv.1 h p hp;rw [(MapKept.bytes_beq _ _).2 m] at this;cases this
variable {ops:Array Oper} {rest:List Oper} {o:Oper} {a:Act} {Q:Exit->Act->World->Prop}
theorem zeg (hg:o.guard=none) (m x v:Operand) (y:o.op=Op.insert t m x v) (w:P.underlying t=some (.map k e)) (hk:P.underlying k=some .string)
  (b:Nat) (l:List (ByteArray×Value)) (s:ByteArray) (val:Value) (r:a.eval m = .map (some b)) (h:MapS W b l) (hex:a.eval x = .string s) (u:a.eval v=val) (hs:(l.all fun p=>!(p.1==s))=true)
  (n:∀ w',MapS w' b (l++[(s,val)])->W.grownBy w' (some b)->wpList P ops Q rest (a.put o.dst undef) w'):wpList P ops Q (o::rest) a W:=by
 refine wpList_plain hg fun A q=>?_;obtain ⟨w',z,r1,r2⟩:=h.push w hk (zks hs) val;unfold Oper.wp;simp [execOp,y,r,hex,u,z,Result.andThen];exact q _ _ (n w' r1 r2)
end
end
end Go.Proofs.YtjeekocidaogoaaGreatDoor.Hand
namespace Go.Proofs.YtjeekocidaogoaaGreatDoor.H
open Go.RowKit Go.Proofs.YtjeekocidaogoaaGreatDoor.Hand Go.Proofs.YtjeekocidaogoaaGreatDoorW.PrintWords Go.Proofs.YtjeekocidaogoaaGreatDoorW.PrintLast Go.Proofs.YtjeekocidaogoaaGreatDoorW.PrintMore
section
abbrev zpq (fn g:Nat):Value := .func (.func fn) #[.pointer (some ⟨g,0,none⟩)] #[]
def zgg (g:Nat):List (ByteArray×Value):=
  [(zjt,.func (.func 175) #[] #[]),(zge,.func (.func 176) #[] #[]),(zfh,zpq 177 g),(zfd,zpq 178 g),
   (zcm,zpq 179 g),(zid,zpq 180 g),(zei,zpq 181 g),(sHas,zpq 182 g)]
theorem true_calls (W:World) (a:Int) :
    Calls prog 175 #[.int .i64 a] W fun e W'=>e = .returned (.agg #[.int .i64 1,.string ⟨#[]⟩,.string ⟨#[]⟩,.slice none 0 0,.slice none 0 0,.slice none 0 0,.slice none 0 0,.int .i64 a])/\Below W.heap.size W W':=by
  go_enter func175,ntmps175;go_wp2;have m:=qab W (.cells #[.int .i64 1,.string ⟨#[]⟩,.string ⟨#[]⟩,.slice none 0 0,.slice none 0 0,.slice none 0 0,.slice none 0 0,.int .i64 a] 60);have n:=(qan W.heap.size W).alloc (qad _) (.cells #[.int .i64 1,.string ⟨#[]⟩,.string ⟨#[]⟩,.slice none 0 0,.slice none 0 0,.slice none 0 0,.slice none 0 0,.int .i64 a] 60);refine qaf (qau rfl _ _ W.heap.size 60 #[.int .i64 1,.string ⟨#[]⟩,.string ⟨#[]⟩,.slice none 0 0,.slice none 0 0,.slice none 0 0,.slice none 0 0,.int .i64 a] (0,0) _ rfl m underlying60 rfl kae) rfl ?_;exact ⟨rfl,n⟩
theorem false_calls (W:World) (a:Int) :
    Calls prog 176 #[.int .i64 a] W fun e W'=>e = .returned (.agg #[.int .i64 2,.string ⟨#[]⟩,.string ⟨#[]⟩,.slice none 0 0,.slice none 0 0,.slice none 0 0,.slice none 0 0,.int .i64 a])/\Below W.heap.size W W':=by
  go_enter func176,ntmps176;go_wp2;have m:=qab W (.cells #[.int .i64 2,.string ⟨#[]⟩,.string ⟨#[]⟩,.slice none 0 0,.slice none 0 0,.slice none 0 0,.slice none 0 0,.int .i64 a] 60);have n:=(qan W.heap.size W).alloc (qad _) (.cells #[.int .i64 2,.string ⟨#[]⟩,.string ⟨#[]⟩,.slice none 0 0,.slice none 0 0,.slice none 0 0,.slice none 0 0,.int .i64 a] 60);refine qaf (qau rfl _ _ W.heap.size 60 #[.int .i64 2,.string ⟨#[]⟩,.string ⟨#[]⟩,.slice none 0 0,.slice none 0 0,.slice none 0 0,.slice none 0 0,.int .i64 a] (0,0) _ rfl m underlying60 rfl kae) rfl ?_;exact ⟨rfl,n⟩
section
variable (g T c:Nat) (toks:List Tok) (aa:∀ k,k<toks.length->(tk toks k).kind≠8->k+1<toks.length)
include aa
theorem zfx (fn:Nat) (W:World) (i:Nat) (res:PR CD) (hi:i<toks.length) (hs:PSt W g T c toks i) (hk:(tk toks i).kind=1) (hb:isT (tk toks i) zgb=false)
    (l1 l2:List (ByteArray×Value)) (aC:zgg g=l1++((tk toks i).text,zpq fn g)::l2/\∀ p∈l1,p.1≠(tk toks i).text) (aK:∀ w x,(callFunc fn #[.pointer (some ⟨g,0,none⟩),x]).run prog w = .ok (.enter fn #[.pointer (some ⟨g,0,none⟩),x]) w)
    (a7:∀ W',PSt W' g T c toks (i+1)->Calls prog fn #[.pointer (some ⟨g,0,none⟩),.int .i64 (tk toks i).place] W' (zjq W' g T c toks res)) :
    Calls prog 144 #[.pointer (some ⟨g,0,none⟩)] W (zjq W g T c toks res):=by
  have hg:=hs.lts.1;have hT:=hs.lts.2.1;have hm:=hs.many;have aH:=zq (aa i hi kab);have HP:=zq (fun W' (E:PSt W' g T c toks i)=>zcv W' g T c toks i _ (zdp toks hi) E);have B:=zq (fun W' (E:PSt W' g T c toks i)=>zcp W' g T c toks i _ (zdp toks hi) zgb E);simp only [hb,qbt,if_false] at B;have ae:=zq (hs.alloc (.cells zbe 60));have a1:=zq (qab W (.cells zbe 60));have X:=zq (Fr.refl (W.alloc (.cells zbe 60)) (·=g));have ad:=zq aC;have U:=zq a7;clear hs aC a7;have aQ:=@run_makeMap prog;have aP:∀ (fn:Fn) (first cap:Array Value) (w:World),(Instr.makeFunc fn first cap).run prog w = .ok (.func fn first cap) w:=fun _ _ _ _=>rfl;go_enter func144,ntmps144;go_upto_region 10 with (first
    | (go_at_call 28;refine (HP.o _ ae.o).mono ?_;rintro e1 w1 ⟨rfl,J⟩;have ab:=zq ((ae.o.below J).alloc (tokK 1 (tk toks i)));have an:=zq ((X.o.trans (Fr.of_below J)).alloc (tokK 1 (tk toks i)));have q:=zq (qab w1 (tokK 1 (tk toks i)));clear J HP)
    | (go_at_call 78;refine (B.o _ ab.o).mono ?_;rintro e2 m ⟨rfl,r,hF⟩;have q:=zq (hF.blk q.o kbk);obtain ⟨p0,-⟩:=zbk q.o;have y:=zq r;have z:=zq (an.o.trans hF);have A:=zq (zhj m);have n:=zq ((Fr.refl m (·=m.heap.size)).alloc (.map #[] 0));clear r hF B)
    | (refine zeg rfl _ _ _ rfl underlying196 underlying9 m.heap.size _ _ _ rfl A.o rfl rfl kae ?_;intro w3 aA a8;have A:=zq aA;have n:=zq (n.o.trans (Fr.of_grown (S:=(·=m.heap.size)) a8 (fun k hk=>(qaa hk).symm)));clear aA a8))
  have aG:=z.o.size;rw [qae] at aG;have aF:g≠m.heap.size:=(by have:=y.o.lts.1;omega);have D:=zq (y.o.fr (S:=(·=m.heap.size)) n.o (fun e=>aF e) (fun e=>by have:=y.o.lts.2.1;omega));have s:=zq (z.o.then_ n.o (fun k hk => .inr kax));have Z:=zq (n.o.blk q.o (by show ¬w1.heap.size=m.heap.size;have:=zam q.o;omega));have aI:=zq (s.o.blk a1.o kah);have aO:=zam Z.o;obtain ⟨q0,q1,q2,q3,q4,q5⟩:=zbk Z.o;obtain ⟨s0,s1,s2⟩:=D.o.facts;have aL:g≠w1.heap.size:=kbs;have aM:g≠W.heap.size:=kab;have aN:=MapS.look underlying196 underlying9 (show MapS w3 m.heap.size (l1++((tk toks i).text,zpq fn g)::l2) from ad.o.1 ▸ A.o) ad.o.2;clear ae ab y X an z n q;cases res with
  | bad ke pe=>
    go_wp2_with ((with_reducible refine zda fn ?_);refine (U.o _ D.o.step).mono ?_;rintro e4 w4 ⟨rfl,hF⟩);exact ⟨rfl,rfl,(((Fr.refl W (·=g)).alloc _).trans s.o).then_ (Fr.trans (Fr.setCell (S:=(·=g)) (Fr.refl _ _) (.inl rfl) _) hF) (fun k hk => .inl hk)⟩
  | ok x j=>
    go_wp2_with ((with_reducible refine zda fn ?_);refine (U.o _ D.o.step).mono ?_;rintro e4 w4 ⟨cs,L,rfl,I,r,hF,hj,hD,hd,a6⟩;obtain ⟨v3,v4,v5,v6,rfl,-,-,-,-,M,n3,c3,O,n4,c4,A5,n5,c5,A6,n6,c6,rfl,rfl,rfl,rfl⟩:=zax I;have aD:=zq r;have Y:=zq (Fr.trans (Fr.setCell (S:=(·=g)) s.o (.inl rfl) (.int .i64 ((i:Int)+1))) hF);have G:=Y.o.blk a1.o kah;obtain ⟨y0,y1,y2,y3,y4,y5,y6,y7,z0,z1,z2,z3,z4,z5,z6,z7⟩:=zaw G;have HN:=zq G;have af:=zq I;have u:=zq (And.intro hj (And.intro hD (And.intro hd a6)));clear r hF I hj hD hd a6 G);obtain ⟨R1,R2,R3⟩:=zdw hg hT HN.o aD.o (((Fr.refl W (·=g)).alloc _).trans Y.o) (.int .i64 x.1.f0) (.string x.1.f1) (.string x.1.f2) (.slice M n3 c3) (.slice O n4 c4) (.slice A5 n5 c5) (.slice A6 n6 c6) (.int .i64 x.1.f7);refine qaf (qau rfl _ _ W.heap.size 60 #[.int .i64 x.1.f0,.string x.1.f1,.string x.1.f2,.slice M n3 c3,.slice O n4 c4,.slice A5 n5 c5,.slice A6 n6 c6,.int .i64 x.1.f7] (0,0) _ rfl R1 underlying60 rfl kae) rfl ?_;have aB:=s.o.size;rw [qae] at aB;have aJ:W.heap.size+1<=(w3.setCell ⟨g,1,none⟩ (.int .i64 ((i:Int)+1))).heap.size:=(by simpa [World.setCell] using aB);exact ⟨_,_,rfl,(af.o.fr (zbo _ _ _ _ _ _ _ _ _ _) fun g' aE e=>by have:=(af.o.lt g' aE).1;omega).lower kab,R2,R3,u.o.1,u.o.2.1,u.o.2.2.1,u.o.2.2.2⟩
theorem znk (fn:Nat) (W:World) (i:Nat) (res:PR CD) (hi:i<toks.length) (hs:PSt W g T c toks i) (hk:(tk toks i).kind=1) (hb:isT (tk toks i) zgb=false)
    (l1 l2:List (ByteArray×Value)) (aC:zgg g=l1++((tk toks i).text,.func (.func fn) #[] #[])::l2/\∀ p∈l1,p.1≠(tk toks i).text) (aK:∀ w x,(callFunc fn #[x]).run prog w = .ok (.enter fn #[x]) w)
    (a7:∀ W',PSt W' g T c toks (i+1)->Calls prog fn #[.int .i64 (tk toks i).place] W' (zjq W' g T c toks res)) :
    Calls prog 144 #[.pointer (some ⟨g,0,none⟩)] W (zjq W g T c toks res):=by
  have hg:=hs.lts.1;have hT:=hs.lts.2.1;have hm:=hs.many;have aH:=zq (aa i hi kab);have HP:=zq (fun W' (E:PSt W' g T c toks i)=>zcv W' g T c toks i _ (zdp toks hi) E);have B:=zq (fun W' (E:PSt W' g T c toks i)=>zcp W' g T c toks i _ (zdp toks hi) zgb E);simp only [hb,qbt,if_false] at B;have ae:=zq (hs.alloc (.cells zbe 60));have a1:=zq (qab W (.cells zbe 60));have X:=zq (Fr.refl (W.alloc (.cells zbe 60)) (·=g));have ad:=zq aC;have U:=zq a7;clear hs aC a7;have aQ:=@run_makeMap prog;have aP:∀ (fn:Fn) (first cap:Array Value) (w:World),(Instr.makeFunc fn first cap).run prog w = .ok (.func fn first cap) w:=fun _ _ _ _=>rfl;go_enter func144,ntmps144;go_upto_region 10 with (first
    | (go_at_call 28;refine (HP.o _ ae.o).mono ?_;rintro e1 w1 ⟨rfl,J⟩;have ab:=zq ((ae.o.below J).alloc (tokK 1 (tk toks i)));have an:=zq ((X.o.trans (Fr.of_below J)).alloc (tokK 1 (tk toks i)));have q:=zq (qab w1 (tokK 1 (tk toks i)));clear J HP)
    | (go_at_call 78;refine (B.o _ ab.o).mono ?_;rintro e2 m ⟨rfl,r,hF⟩;have q:=zq (hF.blk q.o kbk);obtain ⟨p0,-⟩:=zbk q.o;have y:=zq r;have z:=zq (an.o.trans hF);have A:=zq (zhj m);have n:=zq ((Fr.refl m (·=m.heap.size)).alloc (.map #[] 0));clear r hF B)
    | (refine zeg rfl _ _ _ rfl underlying196 underlying9 m.heap.size _ _ _ rfl A.o rfl rfl kae ?_;intro w3 aA a8;have A:=zq aA;have n:=zq (n.o.trans (Fr.of_grown (S:=(·=m.heap.size)) a8 (fun k hk=>(qaa hk).symm)));clear aA a8))
  have aG:=z.o.size;rw [qae] at aG;have aF:g≠m.heap.size:=(by have:=y.o.lts.1;omega);have D:=zq (y.o.fr (S:=(·=m.heap.size)) n.o (fun e=>aF e) (fun e=>by have:=y.o.lts.2.1;omega));have s:=zq (z.o.then_ n.o (fun k hk => .inr kax));have Z:=zq (n.o.blk q.o (by show ¬w1.heap.size=m.heap.size;have:=zam q.o;omega));have aI:=zq (s.o.blk a1.o kah);have aO:=zam Z.o;obtain ⟨q0,q1,q2,q3,q4,q5⟩:=zbk Z.o;obtain ⟨s0,s1,s2⟩:=D.o.facts;have aL:g≠w1.heap.size:=kbs;have aM:g≠W.heap.size:=kab;have aN:=MapS.look underlying196 underlying9 (show MapS w3 m.heap.size (l1++((tk toks i).text,.func (.func fn) #[] #[])::l2) from ad.o.1 ▸ A.o) ad.o.2;clear ae ab y X an z n q;cases res with
  | bad ke pe=>
    go_wp2_with ((with_reducible refine zda fn ?_);refine (U.o _ D.o.step).mono ?_;rintro e4 w4 ⟨rfl,hF⟩);exact ⟨rfl,rfl,(((Fr.refl W (·=g)).alloc _).trans s.o).then_ (Fr.trans (Fr.setCell (S:=(·=g)) (Fr.refl _ _) (.inl rfl) _) hF) (fun k hk => .inl hk)⟩
  | ok x j=>
    go_wp2_with ((with_reducible refine zda fn ?_);refine (U.o _ D.o.step).mono ?_;rintro e4 w4 ⟨cs,L,rfl,I,r,hF,hj,hD,hd,a6⟩;obtain ⟨v3,v4,v5,v6,rfl,-,-,-,-,M,n3,c3,O,n4,c4,A5,n5,c5,A6,n6,c6,rfl,rfl,rfl,rfl⟩:=zax I;have aD:=zq r;have Y:=zq (Fr.trans (Fr.setCell (S:=(·=g)) s.o (.inl rfl) (.int .i64 ((i:Int)+1))) hF);have G:=Y.o.blk a1.o kah;obtain ⟨y0,y1,y2,y3,y4,y5,y6,y7,z0,z1,z2,z3,z4,z5,z6,z7⟩:=zaw G;have HN:=zq G;have af:=zq I;have u:=zq (And.intro hj (And.intro hD (And.intro hd a6)));clear r hF I hj hD hd a6 G);obtain ⟨R1,R2,R3⟩:=zdw hg hT HN.o aD.o (((Fr.refl W (·=g)).alloc _).trans Y.o) (.int .i64 x.1.f0) (.string x.1.f1) (.string x.1.f2) (.slice M n3 c3) (.slice O n4 c4) (.slice A5 n5 c5) (.slice A6 n6 c6) (.int .i64 x.1.f7);refine qaf (qau rfl _ _ W.heap.size 60 #[.int .i64 x.1.f0,.string x.1.f1,.string x.1.f2,.slice M n3 c3,.slice O n4 c4,.slice A5 n5 c5,.slice A6 n6 c6,.int .i64 x.1.f7] (0,0) _ rfl R1 underlying60 rfl kae) rfl ?_;have aB:=s.o.size;rw [qae] at aB;have aJ:W.heap.size+1<=(w3.setCell ⟨g,1,none⟩ (.int .i64 ((i:Int)+1))).heap.size:=(by simpa [World.setCell] using aB);exact ⟨_,_,rfl,(af.o.fr (zbo _ _ _ _ _ _ _ _ _ _) fun g' aE e=>by have:=(af.o.lt g' aE).1;omega).lower kab,R2,R3,u.o.1,u.o.2.1,u.o.2.2.1,u.o.2.2.2⟩
end
section
variable (g T c:Nat) (toks:List Tok)
theorem first_bad1 (W:World) (i:Nat) (hi:i<toks.length) (hs:PSt W g T c toks i) (hk:(tk toks i).kind=1) (Z:isT (tk toks i) zgb=false)
    (O:∀ p∈zgg g,p.1≠(tk toks i).text) :
    Calls prog 144 #[.pointer (some ⟨g,0,none⟩)] W (zjq W g T c toks (.bad 90 (tk toks i).place)):=by
  have hg:=hs.lts.1;have hT:=hs.lts.2.1;have hm:=hs.many;have X:=zq (fun W' (r:PSt W' g T c toks i)=>zer W' g T c toks i _ (zdp toks hi) 90 r);have G:=zq (fun W' (r:PSt W' g T c toks i)=>zcv W' g T c toks i _ (zdp toks hi) r);have y:=zq (fun W' (r:PSt W' g T c toks i)=>zcp W' g T c toks i _ (zdp toks hi) zgb r);simp only [Z,qbt,if_false] at y;have ae:=zq (hs.alloc (.cells zbe 60));have Y:=zq (qab W (.cells zbe 60));have B:=zq (Fr.refl (W.alloc (.cells zbe 60)) (·=g));clear hs;have aD:=@run_makeMap prog;have aC:∀ (fn:Fn) (first cap:Array Value) (w:World),(Instr.makeFunc fn first cap).run prog w = .ok (.func fn first cap) w:=fun _ _ _ _=>rfl;go_enter func144,ntmps144;go_upto_region 10 with (first
    | (go_at_call 28;refine (G.o _ ae.o).mono ?_;rintro e1 w1 ⟨rfl,A⟩;have ab:=zq ((ae.o.below A).alloc (tokK 1 (tk toks i)));have an:=zq ((B.o.trans (Fr.of_below A)).alloc (tokK 1 (tk toks i)));have q:=zq (qab w1 (tokK 1 (tk toks i)));clear A G)
    | (go_at_call 78;refine (y.o _ ab.o).mono ?_;rintro e2 m ⟨rfl,J,hF⟩;have q:=zq (hF.blk q.o kbk);obtain ⟨p0,-⟩:=zbk q.o;have s:=zq J;have u:=zq (an.o.trans hF);have x:=zq (zhj m);have n:=zq ((Fr.refl m (·=m.heap.size)).alloc (.map #[] 0));clear J hF y)
    | (refine zeg rfl _ _ _ rfl underlying196 underlying9 m.heap.size _ _ _ rfl x.o rfl rfl kae ?_;intro U M L;have x:=zq M;have n:=zq (n.o.trans (Fr.of_grown (S:=(·=m.heap.size)) L (fun k hk=>(qaa hk).symm)));clear M L))
  have a1:=u.o.size;rw [qae] at a1;have af:g≠m.heap.size:=(by have:=s.o.lts.1;omega);have I:=zq (s.o.fr (S:=(·=m.heap.size)) n.o (fun e=>af e) (fun e=>by have:=s.o.lts.2.1;omega));have D:=zq (u.o.then_ n.o (fun k hk => .inr kax));have E:=zq (n.o.blk q.o (by show ¬w1.heap.size=m.heap.size;have:=zam q.o;omega));have a6:=zq (D.o.blk Y.o kah);have aB:=zam E.o;obtain ⟨q0,q1,q2,q3,q4,q5⟩:=zbk E.o;obtain ⟨s0,s1,s2⟩:=I.o.facts;have a7:g≠w1.heap.size:=kbs;have a8:g≠W.heap.size:=kab;have aA:=MapS.look_none underlying196 underlying9 (P:=prog) (z := .nilFunc) (W:=U) kae (show MapS U m.heap.size (zgg g) from x.o) O;clear O;clear ae ab s B an u n q;go_wp2_with (go_at_call 51;refine (X.o _ I.o).mono ?_;rintro e4 w4 ⟨rfl,ad⟩);exact ⟨rfl,rfl,(((Fr.refl W (·=g)).alloc _).trans D.o).trans (Fr.of_below ad)⟩
theorem first_bad2 (W:World) (i:Nat) (hi:i<toks.length) (hs:PSt W g T c toks i) (a8:¬(tk toks i).kind=1) (aA:¬(tk toks i).kind=2) (Y:isT (tk toks i) zgb=false) :
    Calls prog 144 #[.pointer (some ⟨g,0,none⟩)] W (zjq W g T c toks (.bad 90 (tk toks i).place)):=by
  have hg:=hs.lts.1;have hT:=hs.lts.2.1;have hm:=hs.many;have U:=zq (fun W' (q:PSt W' g T c toks i)=>zer W' g T c toks i _ (zdp toks hi) 90 q);have G:=zq (fun W' (q:PSt W' g T c toks i)=>zcv W' g T c toks i _ (zdp toks hi) q);have y:=zq (fun W' (q:PSt W' g T c toks i)=>zcp W' g T c toks i _ (zdp toks hi) zgb q);simp only [Y,qbt,if_false] at y;have ae:=zq (hs.alloc (.cells zbe 60));have X:=zq (qab W (.cells zbe 60));have B:=zq (Fr.refl (W.alloc (.cells zbe 60)) (·=g));clear hs;have aE:=@run_makeMap prog;have aD:∀ (fn:Fn) (first cap:Array Value) (w:World),(Instr.makeFunc fn first cap).run prog w = .ok (.func fn first cap) w:=fun _ _ _ _=>rfl;go_enter func144,ntmps144;go_upto_region 10 with (first
    | (go_at_call 28;refine (G.o _ ae.o).mono ?_;rintro e1 w1 ⟨rfl,A⟩;have ab:=zq ((ae.o.below A).alloc (tokO (tk toks i)));have an:=zq ((B.o.trans (Fr.of_below A)).alloc (tokO (tk toks i)));have p:=zq (qab w1 (tokO (tk toks i)));clear A G)
    | (go_at_call 78;refine (y.o _ ab.o).mono ?_;rintro e2 m ⟨rfl,J,hF⟩;have p:=zq (hF.blk p.o kbk);obtain ⟨p0,-⟩:=zbk p.o;have r:=zq J;have u:=zq (an.o.trans hF);have x:=zq (zhj m);have n:=zq ((Fr.refl m (·=m.heap.size)).alloc (.map #[] 0));clear J hF y)
    | (refine zeg rfl _ _ _ rfl underlying196 underlying9 m.heap.size _ _ _ rfl x.o rfl rfl kae ?_;intro O M L;have x:=zq M;have n:=zq (n.o.trans (Fr.of_grown (S:=(·=m.heap.size)) L (fun k hk=>(qaa hk).symm)));clear M L))
  have af:=u.o.size;rw [qae] at af;have ad:g≠m.heap.size:=(by have:=r.o.lts.1;omega);have I:=zq (r.o.fr (S:=(·=m.heap.size)) n.o (fun e=>ad e) (fun e=>by have:=r.o.lts.2.1;omega));have D:=zq (u.o.then_ n.o (fun k hk => .inr kax));have E:=zq (n.o.blk p.o (by show ¬w1.heap.size=m.heap.size;have:=zam p.o;omega));have a1:=zq (D.o.blk X.o kah);have aC:=zam E.o;obtain ⟨q0,q1,q2,q3,q4,q5⟩:=zbk E.o;obtain ⟨s0,s1,s2⟩:=I.o.facts;have a6:g≠w1.heap.size:=kbs;have a7:g≠W.heap.size:=kab;obtain ⟨lv,aF,aB,-⟩:=MapS.look_any underlying196 underlying9 (P:=prog) (z := .nilFunc) (W:=O) kae (s:=(tk toks i).text) (show MapS O m.heap.size (zgg g) from x.o);clear ae ab r B an u n p;go_wp2_with (go_at_call 51;refine (U.o _ I.o).mono ?_;rintro e4 w4 ⟨rfl,Z⟩);exact ⟨rfl,rfl,(((Fr.refl W (·=g)).alloc _).trans D.o).trans (Fr.of_below Z)⟩
theorem op_none {t:Tok} (g:Nat) (h:isOp t=false):∀ p∈zgg g,p.1≠t.text:=by
  intro p hp m;have:isOp t=true:=by
    unfold isOp;rw [List.any_eq_true];refine ⟨p.1,?_,by rw [m];simp⟩;have:p.1∈(zgg g).map (·.1):=List.mem_map.2 ⟨p,hp,rfl⟩;exact this
  rw [h] at this;cases this
end
end
section
section
variable {toks:List Tok}
def On {α:Type} (toks:List Tok) (i:Nat) (r:PR α):Prop:=∀ x j,r = .ok x j->i<j/\j<toks.length
theorem On.bad {α:Type} {i:Nat} {e p:Int}:On (α:=α) toks i (.bad e p):=fun x j h=>by cases h
theorem On.ok {α:Type} {i j:Nat} {x:α} (h1:i<j) (n:j<toks.length):On toks i (.ok x j):=fun y m h=>by cases h;exact ⟨h1,n⟩
theorem On.step {α:Type} {i j:Nat} {r:PR α} (h:On toks j r) (p:i<=j):On toks i r:=fun x m n=>⟨by have:=(h x m n).1;omega,(h x m n).2⟩
theorem On.bind {α β:Type} {i:Nat} {r:PR α} {f:α->Nat->PR β} (h:On toks i r) (hf:∀ x j,r = .ok x j->i<j->j<toks.length->On toks j (f x j)):On toks i (r.bind f):=by
 cases r with
 | bad e p=>exact On.bad
 | ok a j=>
  have:=h a j rfl;exact (hf a j rfl this.1 this.2).step kab
theorem On.map {α β:Type} {i:Nat} {r:PR α} {f:α->β} (h:On toks i r):On toks i (r.bind fun x j => .ok (f x) j):=by
 cases r with
 | bad e p=>exact On.bad
 | ok a j=>exact On.ok (h a j rfl).1 (h a j rfl).2
variable (aa:∀ k,k<toks.length->(tk toks k).kind≠8->k+1<toks.length)
include aa
theorem zgd (s:ByteArray) (i:Nat) (hi:i<toks.length):On toks i (zdg toks s i):=by
 unfold zdg;by_cases h:isT (tk toks i) s=true
 ·rw [if_pos h];exact On.ok kab (aa i hi (zcd h))
 rw [if_neg h];exact On.bad
theorem zlv (k:Int) (hk:k≠8) (i:Nat) (hi:i<toks.length):On toks i (ofP toks k i):=by
 unfold ofP;by_cases h:(tk toks i).kind=k
 ·rw [if_pos h];exact On.ok kab (aa i hi kab)
 rw [if_neg h];exact On.bad
theorem addrE_on (i:Nat) (hi:i<toks.length):On toks i (zgh toks i):=(zlv aa 5 kad i hi).map
theorem methodE_on (i:Nat) (hi:i<toks.length):On toks i (zdq toks i):=(zlv aa 3 kad i hi).map
theorem portE_on (i:Nat) (hi:i<toks.length):On toks i (zfi toks i):=by
 unfold zfi ofP;by_cases h:(tk toks i).kind=4
 ·have h1:=aa i hi kab;rw [if_pos h];simp only [PR.bind];by_cases n:isT (tk toks (i+1)) zba=true
  ·have p:=aa (i+1) h1 (zcd n);rw [if_pos n];by_cases m:(tk toks (i+1+1)).kind=4
   ·rw [if_pos m];exact On.ok kab (aa (i+1+1) p (by rw [m];decide))
   rw [if_neg m];exact On.bad
  rw [if_neg n];exact On.ok kab h1
 rw [if_neg h];exact On.bad
theorem listL_total {β:Type} (elem:Nat->PR β) (want:Int) (u:∀ i,i<toks.length->On toks i (elem i)):∀ (k i:Nat) (acc:List β),i<toks.length->toks.length-i<=k ->
  ∃ r,zha toks elem want k i acc=some r/\On toks i r:=by
 intro k;induction k with
 | zero=>intro i acc hi hk;omega
 | succ k w=>
  intro i acc hi hk;unfold zha;by_cases h1:acc.length=32/\(tk toks i).kind=want
  ·rw [if_pos h1];exact ⟨_,rfl,On.bad⟩
  rw [if_neg h1];have n:=u i hi;cases hr:elem i with
  | bad e p=>exact ⟨_,rfl,On.bad⟩
  | ok b j=>
   rw [hr] at n;obtain ⟨o1,o2⟩:=n b j rfl;dsimp only;by_cases m:isT (tk toks j) zet=true
   ·rw [if_pos m];obtain ⟨r,q,s⟩:=w (j+1) (acc++[b]) (aa j o2 (zcd m)) kab;exact ⟨r,q,s.step kab⟩
   rw [if_neg m];exact ⟨_,rfl,((zgd aa zgz j o2).map (f:=fun _=>acc++[b])).step kab⟩
theorem zit {β:Type} (elem:Nat->PR β) (want:Int) (u:∀ i,i<toks.length->On toks i (elem i)) (k i:Nat) (hi:i<toks.length) (hk:toks.length-i<=k) :
  ∃ r,zhk toks elem want k i=some r/\On toks i r:=by
 unfold zhk;have h1:=zgd aa sIn i hi;cases hr:zdg toks sIn i with
 | bad e p=>exact ⟨_,rfl,On.bad⟩
 | ok _ j=>
  rw [hr] at h1;obtain ⟨o1,o2⟩:=h1 _ j rfl;dsimp only;have n:=zgd aa zju j o2;cases w:zdg toks zju j with
  | bad e p=>exact ⟨_,rfl,On.bad⟩
  | ok _ m=>
   rw [w] at n;obtain ⟨o3,o4⟩:=n _ m rfl;dsimp only;obtain ⟨r,q,s⟩:=listL_total aa elem want u k m [] o4 kab;exact ⟨r,q,s.step kab⟩
theorem atomP_total (t:Tok) (k i:Nat) (hi:i<toks.length) (hk:toks.length-i<=k):∃ r,zor toks t k i=some r/\∀ x j,r = .ok x j->i<=j/\j<toks.length:=by
 have low:∀ {r:PR CD},On toks i r->∀ x j,r = .ok x j->i<=j/\j<toks.length:=fun h x j q=>⟨by have:=(h x j q).1;omega,(h x j q).2⟩;unfold zor;split
 ·exact ⟨_,rfl,fun x j h=>by cases h;exact ⟨qad _,hi⟩⟩
 split
 ·exact ⟨_,rfl,fun x j h=>by cases h;exact ⟨qad _,hi⟩⟩
 split
 ·obtain ⟨r,h1,n⟩:=zit aa (zgh toks) 5 (addrE_on aa) k i hi hk;rw [h1];exact ⟨_,rfl,low n.map⟩
 split
 ·obtain ⟨r,h1,n⟩:=zit aa (zfi toks) 4 (portE_on aa) k i hi hk;rw [h1];exact ⟨_,rfl,low n.map⟩
 split
 ·obtain ⟨r,h1,n⟩:=zit aa (zdq toks) 3 (methodE_on aa) k i hi hk;rw [h1];exact ⟨_,rfl,low n.map⟩
 split
 ·exact ⟨_,rfl,low ((zgd aa _ i hi).bind fun _ j _ _ p=>(zlv aa 6 kad j p).map)⟩
 split
 ·exact ⟨_,rfl,low ((zlv aa 6 kad i hi).bind fun _ j _ _ p=>(zgd aa _ j p).bind fun _ m _ _ s=>(zlv aa 6 kad m s).map)⟩
 split
 ·exact ⟨_,rfl,low (zlv aa 6 kad i hi).map⟩
 exact ⟨_,rfl,fun x j h=>by cases h⟩
theorem rowL_total (part:Nat->Option (PR CD)) (kind:Int) (word:ByteArray) (i0:Nat) (hp:∀ j,i0<j->j<toks.length->∃ r,part j=some r/\On toks j r):∀ (k i:Nat) (l:List S60) (d:Nat),i0<i->i<toks.length->toks.length-i<=k ->
  ∃ r,rowL toks part kind word k i l d=some r/\∀ x j,r = .ok x j->i<=j/\j<toks.length:=by
 intro k;induction k with
 | zero=>intro i l d w hi hk;omega
 | succ k B=>
  intro i l d w hi hk;unfold rowL;by_cases n:isT (tk toks i) word=true
  ·have A:=aa i hi (zcd n);rw [if_pos n];by_cases q:l.length=32
   ·rw [if_pos q];exact ⟨_,rfl,fun x j h=>by cases h⟩
   rw [if_neg q];obtain ⟨r,h1,y⟩:=hp (i+1) kab A;rw [h1];cases r with
   | bad e p=>exact ⟨_,rfl,fun x j h=>by cases h⟩
   | ok c j=>
    obtain ⟨o1,o2⟩:=y c j rfl;obtain ⟨r,z,s⟩:=B j (l++[c.1]) (max d c.2) kab o2 kab;exact ⟨r,z,fun x m u=>⟨by have:=(s x m u).1;omega,(s x m u).2⟩⟩
  rw [if_neg n];split
  ·exact ⟨_,rfl,fun x j h=>by cases h;exact ⟨qad _,hi⟩⟩
  refine ⟨_,rfl,fun x j h=>?_⟩;unfold zkc at h;split at h
  ·cases h
  cases h;exact ⟨qad _,hi⟩
theorem znb (part:Nat->Option (PR CD)) (kind:Int) (word:ByteArray) (k i:Nat) (hi:i<toks.length) (hk:toks.length-i<=k) (hp:∀ j,i<=j->j<toks.length->∃ r,part j=some r/\On toks j r) :
  ∃ r,rowP toks part kind word k i=some r/\On toks i r:=by
 unfold rowP;obtain ⟨r,h1,s⟩:=hp i (qad _) hi;rw [h1];cases r with
 | bad e p=>exact ⟨_,rfl,On.bad⟩
 | ok c j=>
  obtain ⟨o1,o2⟩:=s c j rfl;obtain ⟨r,u,n⟩:=rowL_total aa part kind word i (fun j y w=>hp j kab w) k j [c.1] c.2 o1 o2 kab;exact ⟨r,u,fun x m q=>⟨by have:=(n x m q).1;omega,(n x m q).2⟩⟩
theorem zmj:∀ (k s i:Nat),s<=3->i<toks.length->5*(toks.length-i)+(3-s)+1<=k->∃ r,zce toks k s i=some r/\On toks i r:=by
 intro k;induction k with
 | zero=>intro s i B hi hk;omega
 | succ k w=>
  intro s i B hi hk
  match s,B with
  | 0,_=>
   unfold zce;exact znb aa _ 6 sOr k i hi kab fun j G z=>w 1 j kab z kab
  | 1,_=>
   unfold zce;exact znb aa _ 5 sAnd k i hi kab fun j G z=>w 2 j kab z kab
  | 2,_=>
   unfold zce;by_cases hn:isT (tk toks i) sNot=true
   ·have u:=aa i hi (zcd hn);rw [if_pos hn];obtain ⟨r,h1,q⟩:=w 2 (i+1) kab u kab;rw [h1];cases r with
    | bad e p=>exact ⟨_,rfl,On.bad⟩
    | ok c j=>
     obtain ⟨o1,o2⟩:=q c j rfl;refine ⟨_,rfl,fun x m h=>?_⟩;unfold zkc at h;split at h
     ·cases h
     cases h;exact ⟨kab,o2⟩
   rw [if_neg hn];exact w 3 i kab hi kab
  | 3,_=>
   unfold zce;by_cases y:isT (tk toks i) zgb=true
   ·have u:=aa i hi (zcd y);rw [if_pos y];obtain ⟨r,h1,q⟩:=w 0 (i+1) kab u kab;rw [h1];cases r with
    | bad e p=>exact ⟨_,rfl,On.bad⟩
    | ok c j=>
     obtain ⟨o1,o2⟩:=q c j rfl;exact ⟨_,rfl,((zgd aa zhf j o2).map (f:=fun _=>c)).step kab⟩
   rw [if_neg y];by_cases q:(tk toks i).kind=2
   ·rw [if_pos q];exact ⟨_,rfl,On.ok kab (aa i hi kab)⟩
   rw [if_neg q];by_cases h1:(tk toks i).kind=1/\isOp (tk toks i)=true
   ·have u:=aa i hi kab;rw [if_pos h1];obtain ⟨r,E,A⟩:=atomP_total aa (tk toks i) k (i+1) u kab;exact ⟨r,E,fun x j D=>⟨by have:=(A x j D).1;omega,(A x j D).2⟩⟩
   rw [if_neg h1];exact ⟨_,rfl,On.bad⟩
  | n+4,h=>omega
end
def zfk (t:Tok):Option Int:=if t.text.toList=sLet.toList then some 1 else if t.text.toList=zdf.toList then some 2 else if t.text.toList=zeu.toList then some 3 else none
section
variable (toks:List Tok)
def zfr (k n i:Nat):Option (PR S62):=
 match (if (tk toks i).kind=1 then zfk (tk toks i) else none) with
 | none=>some (.bad 90 (tk toks i).place)
 | some kd=>
  if n=100 then some (.bad 92 (tk toks i).place)
  else match ofP toks 2 (i+1) with
   | .bad e p=>some (.bad e p)
   | .ok nm j=>match zdg toks (if kd=1 then sEq else zim) j with
    | .bad e p=>some (.bad e p)
    | .ok _ m=>match zce toks k 0 m with
     | none=>none
     | some (.bad e p)=>some (.bad e p)
     | some (.ok c q)=>some ((zdg toks zjc q).bind fun _ r => .ok ⟨kd,nm.text,c.1,(tk toks i).place⟩ r)
def zfb (k:Nat):Nat->Nat->List S62->Option (PR (List S62))
 | 0,_,_=>none
 | f+1,i,acc=>
  if (tk toks i).kind=8 then some (.ok acc i)
  else match zfr toks k acc.length i with
   | none=>none
   | some (.bad e p)=>some (.bad e p)
   | some (.ok x j)=>zfb k f j (acc++[x])
def zio:Option (PR (List S62)):=zfb toks (5*toks.length+4) (toks.length+1) 0 []
end
section
variable {toks:List Tok} (aa:∀ k,k<toks.length->(tk toks k).kind≠8->k+1<toks.length)
include aa
theorem zmb (k n i:Nat) (hi:i<toks.length) (hk:5*toks.length+4<=k):∃ r,zfr toks k n i=some r/\On toks i r:=by
 unfold zfr;split
 ·exact ⟨_,rfl,On.bad⟩
 rename_i kd s;have h1:(tk toks i).kind=1:=by
  by_cases h:(tk toks i).kind=1
  ·exact h
  rw [if_neg h] at s;cases s
 have x:=aa i hi kab;split
 ·exact ⟨_,rfl,On.bad⟩
 have a1:=zlv aa 2 kad (i+1) x;cases y:ofP toks 2 (i+1) with
 | bad e p=>exact ⟨_,rfl,On.bad⟩
 | ok nm j=>
  rw [y] at a1;obtain ⟨o1,o2⟩:=a1 _ j rfl;dsimp only;have a2:=zgd aa (if kd=1 then sEq else zim) j o2;cases z:zdg toks (if kd=1 then sEq else zim) j with
  | bad e p=>exact ⟨_,rfl,On.bad⟩
  | ok _ m=>
   rw [z] at a2;obtain ⟨o3,o4⟩:=a2 _ m rfl;dsimp only;obtain ⟨r,u,w⟩:=zmj aa k 0 m kab o4 kab;rw [u];cases r with
   | bad e p=>exact ⟨_,rfl,On.bad⟩
   | ok c q=>
    obtain ⟨B,A⟩:=w _ q rfl;exact ⟨_,rfl,((zgd aa zjc q A).map (f:=fun _=>(⟨kd,nm.text,c.1,(tk toks i).place⟩:S62))).step kab⟩
theorem zkm (k:Nat) (hk:5*toks.length+4<=k):∀ (f i:Nat) (acc:List S62),i<toks.length->toks.length-i<=f->∃ r,zfb toks k f i acc=some r/\∀ x j,r = .ok x j->i<=j/\j<toks.length:=by
 intro f;induction f with
 | zero=>intro i acc hi hf;omega
 | succ f z=>
  intro i acc hi hf;unfold zfb;by_cases q:(tk toks i).kind=8
  ·rw [if_pos q];exact ⟨_,rfl,fun x j h=>by cases h;exact ⟨qad _,hi⟩⟩
  rw [if_neg q];obtain ⟨r,h1,u⟩:=zmb aa k acc.length i hi hk;rw [h1];cases r with
  | bad e p=>exact ⟨_,rfl,fun x j h=>by cases h⟩
  | ok x j=>
   obtain ⟨o1,o2⟩:=u x j rfl;obtain ⟨r,w,n⟩:=z j (acc++[x]) o2 kab;exact ⟨r,w,fun y m s=>⟨by have:=(n y m s).1;omega,(n y m s).2⟩⟩
theorem zje (m:0<toks.length):∃ r,zio toks=some r:=by
 obtain ⟨r,h,_⟩:=zkm aa (5*toks.length+4) (qad _) (toks.length+1) 0 [] m kab;exact ⟨r,h⟩
end
end
end Go.Proofs.YtjeekocidaogoaaGreatDoor.H
