import Derived.Test.YtjeekocidaogoaaGreatDoorK6Atoms
import Derived.Test.YtjeekocidaogoaaGreatDoorK6Addr
import Derived.Test.YtjeekocidaogoaaGreatDoorK6Hx9
import Derived.Test.YtjeekocidaogoaaGreatDoorK6PsG
import Derived.Test.YtjeekocidaogoaaGreatDoorRows
import Derived.Test.YtjeekocidaogoaaGreatDoorK6Shelf
import Derived.ProofKit
import Derived.SizedLaws
import Derived.HandedShaped
import Derived.LaidMore
import Derived.Lay
import Derived.Lib.LaidTab
import Derived.Lib.LaidU8
import Derived.Stop.LaidErr
import Derived.Test.YtjeekocidaogoaaGreatDoorK6Mut
import Derived.Test.YtjeekocidaogoaaGreatDoorProg
import Derived.KernelRfl
import Derived.Deep.LoopGhost
import Derived.Deep.QuietTactic
import Derived.Deep.RegionLaw
import Derived.BigQuiet
import Derived.Test.YtjeekocidaogoaaGreatDoorK6Hx5
set_option linter.unusedVariables false
set_option linter.unusedSimpArgs false
set_option maxRecDepth 100000
set_option maxHeartbeats 8000000
open Go.Proofs.Tryz
namespace Go.Proofs.YtjeekocidaogoaaGreatDoor.H
open Go.RowKit Go.Proofs.YtjeekocidaogoaaGreatDoor.Hand Go.Proofs.YtjeekocidaogoaaGreatDoorW.PrintWords Go.Proofs.YtjeekocidaogoaaGreatDoorW.PrintLast Go.Proofs.YtjeekocidaogoaaGreatDoorW.PrintMore
section
attribute [local go_sem] zdu zds zek zej zcv zcu zdt zdr
def lychgateref08_one.l0:Nat->ByteArray->Int->Int->Int->Option (Int×ByteArray×Int×Int×Int×Int×Int×Int)
 | 0,_,_,_,_=>none
 | k+1,e,b,i,d=>if d<9 then (if 0<=d then (if (bt (⟨#[123,125,40,41,44,59,61,126,45]⟩:ByteArray) d)=i then (if 0<=b then (if b<=(wrap64 (b+1)) then (if (wrap64 (b+1))<=(e.size:Int) then (some (7,e.extract (b:Int).toNat ((wrap64 (b+1)):Int).toNat,0,0,0,0,wrap64 (b+1),0)) else (none)) else (none)) else (none)) else (lychgateref08_one.l0 k e b i (wrap64 (d+1)))) else (none)) else (some (0,(⟨#[]⟩:ByteArray),0,0,0,0,0,80))
def lychgateref08_one.f (k:Nat) (a0:ByteArray) (a1:Int):Option (Int×ByteArray×Int×Int×Int×Int×Int×Int):=if 0<=a1 then (if a1<(a0.size:Int) then ((lychgateref08_small.f (bt a0 a1)).bind fun n=>((lychgateref08_great.f (bt a0 a1)).bind fun o=>((lychgateref08_digit.f (bt a0 a1)).bind fun p=>(if n=true then ((lychgateref08_run.f k 1 a0 a1).bind fun b=>(if a1<=b then (if b<=(a0.size:Int) then ((lychgateref08_IsWord.f k (a0.extract (a1:Int).toNat (b:Int).toNat)).bind fun q=>(if q=true then (some (1,a0.extract (a1:Int).toNat (b:Int).toNat,0,0,0,0,b,0)) else (if (wrap64 (b-a1))>32 then (some (0,(⟨#[]⟩:ByteArray),0,0,0,0,0,82)) else (some (2,a0.extract (a1:Int).toNat (b:Int).toNat,0,0,0,0,b,0))))) else (none)) else (none))) else (if o=true then ((lychgateref08_run.f k 2 a0 a1).bind fun e=>(if (wrap64 (e-a1))>16 then (some (0,(⟨#[]⟩:ByteArray),0,0,0,0,0,82)) else (if a1<=e then (if e<=(a0.size:Int) then (some (3,a0.extract (a1:Int).toNat (e:Int).toNat,0,0,0,0,e,0)) else (none)) else (none)))) else (if p=true then ((lychgateref08_run.f k 3 a0 a1).bind fun i=>(if a1<=i then (if i<=(a0.size:Int) then ((lychgateref08_numbered.f k (a0.extract (a1:Int).toNat (i:Int).toNat)).bind fun d=>(if d.2.2.2.2.2.2=true then (some (d.1,d.2.1,d.2.2.1,d.2.2.2.1,d.2.2.2.2.1,d.2.2.2.2.2.1,i,0)) else (some (0,(⟨#[]⟩:ByteArray),0,0,0,0,0,81)))) else (none)) else (none))) else (if (bt a0 a1)=34 then ((lychgateref08_text.f k a0 a1).bind fun j=>(if j.2.2=true then (some (6,j.1,0,0,0,0,j.2.1,0)) else (some (0,(⟨#[]⟩:ByteArray),0,0,0,0,0,83)))) else (lychgateref08_one.l0 k a0 a1 (bt a0 a1) 0)))))))) else (none)) else (none)
theorem lychgateref08_one.calls (k:Nat) (a0:ByteArray) (a1:Int) (r1:Int) (r2:ByteArray) (r3:Int) (r4:Int) (r5:Int) (r6:Int) (r7:Int) (r8:Int) (w:World) (h:lychgateref08_one.f k a0 a1=some (r1,r2,r3,r4,r5,r6,r7,r8)) :
  Calls prog 55 #[.string a0,.int .i64 a1] w fun e w'=>e = .returned (.tuple #[.agg #[.int .i64 r1,.string r2,.int .i64 r3,.int .i64 r4,.int .i64 r5,.int .i64 r6],.int .i64 r7,.int .i64 r8])/\Below w.heap.size w w':=by
 unfold lychgateref08_one.f at h;obtain ⟨h0,h⟩:=hif h;obtain ⟨h1,h⟩:=hif h;have c0:=qab h0;have c1:=qab h1;obtain ⟨sm,A1,h⟩:=hbd h;obtain ⟨gr,A2,h⟩:=hbd h;obtain ⟨dg,A3,h⟩:=hbd h;have ad:=zq (fun w=>lychgateref08_small.calls _ sm w A1.o);have af:=zq (fun w=>lychgateref08_great.calls _ gr w A2.o);have a6:=zq (fun w=>lychgateref08_digit.calls _ dg w A3.o);have j:=zq h;clear A1 A2 A3 h;have p0:=eq_true h0;have p1:=eq_true h1;have hx:=zcm a0 a1;go_enter func55,ntmps55;go_upto_region 5 with (first
  | (go_at_call 81;refine (ad.o _).mono ?_;rintro e1 w1 ⟨rfl,hd⟩;have ab:=zq (zgp hd (qac w _));have am:=zq (zfc hd (zad (qam _ w) _));clear hd ad)
  | (go_at_call 82;refine (af.o _).mono ?_;rintro e2 w2 ⟨rfl,hd⟩;have aB:=zq (zgp hd ab.o);have aj:=zq (zfc hd am.o);clear hd af)
  | (go_at_call 83;refine (a6.o _).mono ?_;rintro e3 w3 ⟨rfl,hd⟩;have z:=zq (zgp hd aB.o);have u:=zq (zfc hd aj.o);clear hd a6))
 have H:=j.o;clear j;cases sm
 ·rw [if_neg kad] at H;cases gr
  ·rw [if_neg kad] at H;cases dg
   ·rw [if_neg kad] at H;by_cases I:bt a0 a1=34
    ·rw [if_pos I] at H;have aD:=qaq.2 I;obtain ⟨⟨t1,t2,t3⟩,p,H⟩:=hbd H;dsimp only at H;have q:=zq (fun w=>lychgateref08_text.calls k a0 a1 t1 t2 t3 w p.o);have j:=zq H;clear p H;go_upto_region 26 with (go_at_call 87;refine (q.o _).mono ?_;rintro Z w4 ⟨rfl,r⟩;have d:=(r.block _ (zam z.o)).trans z.o;have i:=zaz u.o u.o.size r;clear r q);have H:=j.o;clear j;obtain ⟨u0,u1,u2,u3,u4,u5,g0,g1,g2,g3,g4,g5⟩:=zby d;cases t3
     ·rw [if_neg kad] at H;simp only [qah,qao] at H;obtain ⟨rfl,rfl,rfl,rfl,rfl,rfl,rfl,rfl⟩:=H;go_wp2;refine qaf (zbh rfl _ _ w.heap.size 49 _ (0,0) _ rfl (zci d _ _ _ _ _ _) underlying49 rfl kae) rfl ⟨rfl,zbw i (qad _) _ _ _ _ _ _⟩
     rw [if_pos rfl] at H;simp only [qah,qao] at H;obtain ⟨rfl,rfl,rfl,rfl,rfl,rfl,rfl,rfl⟩:=H;go_wp2;refine qaf (zbh rfl _ _ w.heap.size 49 _ (0,0) _ rfl (zci d _ _ _ _ _ _) underlying49 rfl kae) rfl ⟨rfl,zbw i (qad _) _ _ _ _ _ _⟩
    rw [if_neg I] at H;have aD:=qag.2 I;have j:=zq H;clear H;go_wp2;go_loopg [20] k (fun kq v w'=>∃ x:Int,v = .int .i64 x/\Zq (lychgateref08_one.l0 kq a0 a1 (bt a0 a1) x=some (r1,r2,r3,r4,r5,r6,r7,r8))/\Zq (kq<=k)/\Zq (w'.heap[w.heap.size]?=some (.cells #[.int .i64 0,.string ⟨#[]⟩,.int .i64 0,.int .i64 0,.int .i64 0,.int .i64 0] 49 (0,0)))/\Zq (Below w.heap.size w w'));case atStart=>exact ⟨0,rfl,j,⟨qad _⟩,z,u⟩
    case round=>
     clear j z u;obtain ⟨x,rfl,HA,HK,HX,HB⟩:=hrel;have d:=HX.o;have i:=HB.o;obtain ⟨u0,u1,u2,u3,u4,u5,g0,g1,g2,g3,g4,g5⟩:=zby d;cases gk with
     | zero=>cases HA.o
     | succ k1=>
      have H:=HA.o;simp only [lychgateref08_one.l0] at H;by_cases G:x<9
      ·rw [if_pos G] at H;obtain ⟨a7,H⟩:=hif H;have p9:=eq_true G;have aF:=eq_true a7;have c9:=qab G;have c10:=qab a7;have aE:=zcm (⟨#[123,125,40,41,44,59,61,126,45]⟩:ByteArray) x;by_cases J:bt (⟨#[123,125,40,41,44,59,61,126,45]⟩:ByteArray) x=bt a0 a1
       ·rw [if_pos J] at H;have ce:=qaq.2 J;obtain ⟨h6,H⟩:=hif H;obtain ⟨h7,H⟩:=hif H;obtain ⟨h8,H⟩:=hif H;have c7:=qab h7;have c8:=qab h8;simp only [qah,qao] at H;obtain ⟨rfl,rfl,rfl,rfl,rfl,rfl,rfl,rfl⟩:=H;go_wp2;refine qaf (zbh rfl _ _ w.heap.size 49 _ (0,0) _ rfl (zci d _ _ _ _ _ _) underlying49 rfl kae) rfl ⟨rfl,zbw i (qad _) _ _ _ _ _ _⟩
       rw [if_neg J] at H;have ce:=qag.2 J;have H':=zq H;clear H;go_wp2
       go_roundg k1
       case measure=>have:=HK.o;omega
       case rel=>exact ⟨wrap64 (x+1),by rw [show wrap64 (x+1)=x+1 by unfold wrap64;omega],H',⟨by have:=HK.o;omega⟩,HX,HB⟩
      rw [if_neg G] at H;have c9:=qai G;simp only [qah,qao] at H;obtain ⟨rfl,rfl,rfl,rfl,rfl,rfl,rfl,rfl⟩:=H;go_wp2;refine qaf (zbh rfl _ _ w.heap.size 49 _ (0,0) _ rfl (zci d _ _ _ _ _ _) underlying49 rfl kae) rfl ⟨rfl,zbw i (qad _) _ _ _ _ _ _⟩
   rw [if_pos rfl] at H;obtain ⟨n,p,H⟩:=hbd H;obtain ⟨D,H⟩:=hif H;obtain ⟨E,H⟩:=hif H;have c4:=qab D;have c5:=qab E;obtain ⟨⟨L,M,O,U,X,Y,ok⟩,A5,H⟩:=hbd H;dsimp only at H;have q:=zq (fun w=>lychgateref08_run.calls k 3 a0 a1 n w p.o);have B:=zq (fun w=>lychgateref08_numbered.calls k _ L M O U X Y ok w A5.o);have j:=zq H;clear p A5 H;go_upto_region 21 with (first
    | (go_at_call 84;refine (q.o _).mono ?_;rintro Z w4 ⟨rfl,hd⟩;have A:=zq (zgp hd z.o);have y:=zq (zfc hd u.o);clear hd q)
    | (go_at_call 86;refine (B.o _).mono ?_;rintro e5 w5 ⟨rfl,r⟩;have aC:=zq ((r.block _ (zam A.o)).trans A.o);have i:=zq (zaz y.o y.o.size r);clear r B))
   have H:=j.o;clear j;have hT:=qac w5 (.cells #[.int .i64 L,.string M,.int .i64 O,.int .i64 U,.int .i64 X,.int .i64 Y] 49);have d:=zaf aC.o (.cells #[.int .i64 L,.string M,.int .i64 O,.int .i64 U,.int .i64 X,.int .i64 Y] 49);have i:=zad i.o (.cells #[.int .i64 L,.string M,.int .i64 O,.int .i64 U,.int .i64 X,.int .i64 Y] 49);obtain ⟨u0,u1,u2,u3,u4,u5,g0,g1,g2,g3,g4,g5⟩:=zby d;obtain ⟨v0,v1,v2,v3,v4,v5,k0,k1,k2,k3,k4,k5⟩:=zby hT;cases ok
   ·rw [if_neg kad] at H;simp only [qah,qao] at H;obtain ⟨rfl,rfl,rfl,rfl,rfl,rfl,rfl,rfl⟩:=H;go_wp2;refine qaf (zbh rfl _ _ w.heap.size 49 _ (0,0) _ rfl (zci d _ _ _ _ _ _) underlying49 rfl kae) rfl ⟨rfl,zbw i (qad _) _ _ _ _ _ _⟩
   rw [if_pos rfl] at H;simp only [qah,qao] at H;obtain ⟨rfl,rfl,rfl,rfl,rfl,rfl,rfl,rfl⟩:=H;go_wp2;refine qaf (zbh rfl _ _ w.heap.size 49 _ (0,0) _ rfl (zci d _ _ _ _ _ _) underlying49 rfl kae) rfl ⟨rfl,zbw i (qad _) _ _ _ _ _ _⟩
  rw [if_pos rfl] at H;obtain ⟨n,p,H⟩:=hbd H;have q:=zq (fun w=>lychgateref08_run.calls k 2 a0 a1 n w p.o);have j:=zq H;clear p H;go_upto_region 15 with (go_at_call 84;refine (q.o _).mono ?_;rintro Z w4 ⟨rfl,hd⟩;have A:=zq (zgp hd z.o);have y:=zq (zfc hd u.o);clear hd q);have H:=j.o;clear j;have d:=A.o;have i:=y.o;obtain ⟨u0,u1,u2,u3,u4,u5,g0,g1,g2,g3,g4,g5⟩:=zby d;by_cases a8:wrap64 (n-a1)>16
  ·rw [if_pos a8] at H;simp only [qah,qao] at H;obtain ⟨rfl,rfl,rfl,rfl,rfl,rfl,rfl,rfl⟩:=H;go_wp2;refine qaf (zbh rfl _ _ w.heap.size 49 _ (0,0) _ rfl (zci d _ _ _ _ _ _) underlying49 rfl kae) rfl ⟨rfl,zbw i (qad _) _ _ _ _ _ _⟩
  rw [if_neg a8] at H;obtain ⟨D,H⟩:=hif H;obtain ⟨E,H⟩:=hif H;have c4:=qab D;have c5:=qab E;simp only [qah,qao] at H;obtain ⟨rfl,rfl,rfl,rfl,rfl,rfl,rfl,rfl⟩:=H;go_wp2;refine qaf (zbh rfl _ _ w.heap.size 49 _ (0,0) _ rfl (zci d _ _ _ _ _ _) underlying49 rfl kae) rfl ⟨rfl,zbw i (qad _) _ _ _ _ _ _⟩
 rw [if_pos rfl] at H;obtain ⟨n,p,H⟩:=hbd H;obtain ⟨D,H⟩:=hif H;obtain ⟨E,H⟩:=hif H;have c4:=qab D;have c5:=qab E;obtain ⟨b,A5,H⟩:=hbd H;have q:=zq (fun w=>lychgateref08_run.calls k 1 a0 a1 n w p.o);have B:=zq (fun w=>lychgateref08_IsWord.calls k _ b w A5.o);have j:=zq H;clear p A5 H;go_upto_region 8 with (first
  | (go_at_call 84;refine (q.o _).mono ?_;rintro Z w4 ⟨rfl,hd⟩;have A:=zq (zgp hd z.o);have y:=zq (zfc hd u.o);clear hd q)
  | (go_at_call 85;refine (B.o _).mono ?_;rintro e5 w5 ⟨rfl,r⟩;have d:=(r.block _ (zam A.o)).trans A.o;have i:=zaz y.o y.o.size r;clear r B))
 have H:=j.o;clear j;obtain ⟨u0,u1,u2,u3,u4,u5,g0,g1,g2,g3,g4,g5⟩:=zby d;cases b
 ·rw [if_neg kad] at H;by_cases aA:wrap64 (n-a1)>32
  ·rw [if_pos aA] at H;simp only [qah,qao] at H;obtain ⟨rfl,rfl,rfl,rfl,rfl,rfl,rfl,rfl⟩:=H;go_wp2;refine qaf (zbh rfl _ _ w.heap.size 49 _ (0,0) _ rfl (zci d _ _ _ _ _ _) underlying49 rfl kae) rfl ⟨rfl,zbw i (qad _) _ _ _ _ _ _⟩
  rw [if_neg aA] at H;simp only [qah,qao] at H;obtain ⟨rfl,rfl,rfl,rfl,rfl,rfl,rfl,rfl⟩:=H;go_wp2;refine qaf (zbh rfl _ _ w.heap.size 49 _ (0,0) _ rfl (zci d _ _ _ _ _ _) underlying49 rfl kae) rfl ⟨rfl,zbw i (qad _) _ _ _ _ _ _⟩
 rw [if_pos rfl] at H;simp only [qah,qao] at H;obtain ⟨rfl,rfl,rfl,rfl,rfl,rfl,rfl,rfl⟩:=H;go_wp2;refine qaf (zbh rfl _ _ w.heap.size 49 _ (0,0) _ rfl (zci d _ _ _ _ _ _) underlying49 rfl kae) rfl ⟨rfl,zbw i (qad _) _ _ _ _ _ _⟩
end
section
attribute [local go_sem] zdu zds zek zej zcv zcu zdt zdr
mutual
def lychgateref08_Scan.l0:Nat->ByteArray->List (S49)->Int->Option ((List (S49))×Int×Int)
 | 0,_,_,_=>none
 | k+1,x0,x5,x6=>if x6<(x0.size:Int) then (if 0<=x6 then (if (bt x0 x6)=32 then (lychgateref08_Scan.j1 k x0 x5 x6 (bt x0 x6) ((bt x0 x6)==32)) else (if (bt x0 x6)=9 then (lychgateref08_Scan.j1 k x0 x5 x6 (bt x0 x6) ((bt x0 x6)==9)) else (if (bt x0 x6)=10 then (lychgateref08_Scan.j1 k x0 x5 x6 (bt x0 x6) ((bt x0 x6)==10)) else (lychgateref08_Scan.j1 k x0 x5 x6 (bt x0 x6) ((bt x0 x6)==13))))) else (none)) else (if x5.length<2513169434916 then (some ((x5++[(⟨8,(⟨#[]⟩:ByteArray),0,(⟨0,0⟩:S47),(x0.size:Int)⟩:S49)]),0,0)) else (none))
def lychgateref08_Scan.j1:Nat->ByteArray->List (S49)->Int->Int->Bool->Option ((List (S49))×Int×Int)
 | 0,_,_,_,_,_=>none
 | k+1,x0,x5,x6,x21,x22=>if x22=true then (lychgateref08_Scan.l0 k x0 x5 (wrap64 (x6+1))) else (if x21=35 then (lychgateref08_Scan.l1 k x0 x5 x6) else ((lychgateref08_one.f k x0 x6).bind fun bt349=>(if bt349.2.2.2.2.2.2.2=0 then (if x5.length<2513169434916 then (lychgateref08_Scan.l0 k x0 (x5++[(⟨bt349.1,bt349.2.1,bt349.2.2.1,(⟨bt349.2.2.2.1,bt349.2.2.2.2.1⟩:S47),x6⟩:S49)]) bt349.2.2.2.2.2.2.1) else (none)) else (some (([]:List (S49)),bt349.2.2.2.2.2.2.2,x6)))))
def lychgateref08_Scan.l1:Nat->ByteArray->List (S49)->Int->Option ((List (S49))×Int×Int)
 | 0,_,_,_=>none
 | k+1,x0,x5,x6=>if x6<(x0.size:Int) then (if 0<=x6 then (if (bt x0 x6)=10 then (lychgateref08_Scan.l0 k x0 x5 x6) else (lychgateref08_Scan.l1 k x0 x5 (wrap64 (x6+1)))) else (none)) else (lychgateref08_Scan.l0 k x0 x5 x6)
end
def lychgateref08_Scan.f (k:Nat) (a0:ByteArray):Option ((List (S49))×Int×Int):=if (a0.size:Int)>8000 then (some (([]:List (S49)),84,8000)) else (lychgateref08_Scan.l0 k a0 ([]:List (S49)) 0)
theorem lychgateref08_Scan.calls (k:Nat) (a0:ByteArray) (M:List (S49)) (O:Int) (U:Int) (w:World) (h:lychgateref08_Scan.f k a0=some (M,O,U)) :
  Calls prog 31 #[.string a0] w fun e w'=>∃ bu:Value,e = .returned (.tuple #[bu,.int .i64 O,.int .i64 U])/\Kd.R k49 49 w' w.heap.size (fun _=>True) bu M/\Below w.heap.size w w':=by
 have ck:=underlying49;have HB:=zq (qam w.heap.size w);have H:(if (a0.size:Int)>8000 then (some (([]:List (S49)),84,8000)) else (lychgateref08_Scan.l0 k a0 ([]:List (S49)) 0))=some (M,O,U):=h;clear h;by_cases c2:(a0.size:Int)>8000
 ·rw [if_pos c2] at H;have aM:decide (8000<(a0.size:Int))=true:=qab c2;have aN:decide (8000<a0.size)=true:=qab kab;clear c2;simp only [qah,qao] at H;obtain ⟨rfl,rfl,rfl⟩:=H;go_enter func31,ntmps31;go_wp2
  go_ret3
  exact ⟨_,by first|rfl|(simp [zap,zao]<;>rfl)|(simp [*,zap,zao]<;>rfl),by first|exact Kd.R_nil _ _ _ _ _|exact Kd.N_nil _ _ _ _ _|exact Kd.V_nil _ _ _ _ _|exact Kd.Q_nil _ _ _ _ _|exact Kd.S_nil _ _ _ _ _,kaa⟩
 rw [if_neg c2] at H;have aM:decide (8000<(a0.size:Int))=false:=qai c2;have aN:decide (8000<a0.size)=false:=qai kab;clear c2;have j:=zq H;clear H;go_enter func31,ntmps31;go_wp2;go_loopg [5,6] k (fun J v5 v6 w'=>∃ (r:List (S49)) (d:Int),v6 = .int .i64 d/\Zq (lychgateref08_Scan.l0 J a0 r d=some (M,O,U))/\Zq (J<=k)/\Zq (Kd.R k49 49 w' w.heap.size (fun _=>True) v5 r)/\Zq (Below w.heap.size w w'));case atStart=>exact ⟨(([]:List (S49))),(0),kaf,j,⟨qad _⟩,⟨by first|exact Kd.R_nil _ _ _ _ _|exact Kd.N_nil _ _ _ _ _|exact Kd.V_nil _ _ _ _ _|exact Kd.Q_nil _ _ _ _ _|exact Kd.S_nil _ _ _ _ _⟩,⟨kaa⟩⟩
 case round=>
  clear j;try clear c2
  try clear aM
  try clear aN
  try clear p2
  obtain ⟨r,d,rfl,G,u,aq,HB⟩:=hrel;cases gk with
  | zero=>exact absurd G.o (by simp [lychgateref08_Scan.l0])
  | succ k1=>
   have H:=G.o;clear G;simp only [lychgateref08_Scan.l0] at H;by_cases c3:d<(a0.size:Int)
   ·rw [if_pos c3] at H;have aV:decide (d<(a0.size:Int))=true:=qab c3;clear c3;by_cases c4:0<=d
    ·rw [if_pos c4] at H;have br:decide (0<=d)=true:=qab c4;clear c4;have aU:=zq H;clear H;have p5:0<=(d:Int):=kao;have q5:d<(a0.size:Int):=kao;have bs:=zcm a0 d;replace p5:=eq_true p5;replace q5:=eq_true q5
     go_upto_if 22 with (fail)
     go_cut [22] (fun bD wc=>∃ (J:Nat) (aT:Bool),bD = .bool aT/\Zq (lychgateref08_Scan.j1 J a0 r d (bt a0 d) aT=some (M,O,U))/\Zq (J<=k1)/\Zq (Kd.R k49 49 wc w.heap.size (fun _=>True) u5 r)/\Zq (Below w.heap.size w wc))
     case first=>
      have H:=aU.o;clear aU;by_cases c7:(bt a0 d)=32
      ·rw [if_pos c7] at H;have ad:((bt a0 d)==32)=true:=qaq.mpr c7;have aW:((bt a0 d)!=32)=false:=qap.mpr c7;clear c7
       (first|rw [ad]|(simp only [zjj,zpt];rw [ad])|skip)
       have j:=zq H;clear H;go_wp2
       go_meet
       case rel=>exact ⟨_,(((bt a0 d)==32)),kaf,j,⟨by have:=u.o;first|omega|exact qad _⟩,⟨kaj⟩,⟨kaa⟩⟩
      rw [if_neg c7] at H;have ad:((bt a0 d)==32)=false:=qag.mpr c7;have aW:((bt a0 d)!=32)=true:=qax.mpr c7
      (first|rw [ad]|(simp only [zjj,zpt];rw [ad])|skip)
      by_cases c8:(bt a0 d)=9
      ·rw [if_pos c8] at H;have aX:((bt a0 d)==9)=true:=qaq.mpr c8;have aY:((bt a0 d)!=9)=false:=qap.mpr c8;clear c8;have j:=zq H;clear H;go_wp2
       go_meet
       case rel=>exact ⟨_,(((bt a0 d)==9)),kaf,j,⟨by have:=u.o;first|omega|exact qad _⟩,⟨kaj⟩,⟨kaa⟩⟩
      rw [if_neg c8] at H;have aX:((bt a0 d)==9)=false:=qag.mpr c8;have aY:((bt a0 d)!=9)=true:=qax.mpr c8;by_cases c9:(bt a0 d)=10
      ·rw [if_pos c9] at H;have aZ:((bt a0 d)==10)=true:=qaq.mpr c9;have bb:((bt a0 d)!=10)=false:=qap.mpr c9;clear c9;have j:=zq H;clear H;go_wp2
       go_meet
       case rel=>exact ⟨_,(((bt a0 d)==10)),kaf,j,⟨by have:=u.o;first|omega|exact qad _⟩,⟨kaj⟩,⟨kaa⟩⟩
      rw [if_neg c9] at H;have aZ:((bt a0 d)==10)=false:=qag.mpr c9;have bb:((bt a0 d)!=10)=true:=qax.mpr c9;have j:=zq H;clear H;go_wp2
      go_meet
      case rel=>exact ⟨_,(((bt a0 d)==13)),kaf,j,⟨by have:=u.o;first|omega|exact qad _⟩,⟨kaj⟩,⟨kaa⟩⟩
     case rest=>
      clear aU;(try clear c2);(try clear aM);(try clear aN);(try clear p2);(try clear c3);(try clear aV);(try clear c4);(try clear br);(try clear p5);(try clear q5);(try clear bs);(try clear c7);(try clear ad);(try clear aW);(try clear c8);(try clear aX);(try clear aY);(try clear c9);(try clear aZ);(try clear bb);(try clear p2);(try clear p5);(try clear q5);obtain ⟨J,aT,rfl,G,I,aq,HB⟩:=hcut;cases J with
      | zero=>exact absurd G.o (by simp [lychgateref08_Scan.j1])
      | succ af=>
       have H:=G.o;clear G;simp only [lychgateref08_Scan.j1] at H;by_cases c10:aT=true
       ·subst c10;rw [if_pos rfl] at H;have j:=zq H;clear H;go_wp2
        go_roundg af
        case measure=>have:=u.o;have:=I.o;omega
        case rel=>exact ⟨(r),(wrap64 (d+1)),kaf,j,⟨by have:=u.o;have:=I.o;omega⟩,⟨kaj⟩,⟨kaa⟩⟩
       replace c10:=qbc.mpr c10;subst c10;rw [if_neg (show ¬(false=true) by decide)] at H;by_cases L:(bt a0 d)=35
       ·rw [if_pos L] at H;have bp:((bt a0 d)==35)=true:=qaq.mpr L;have bq:((bt a0 d)!=35)=false:=qap.mpr L;clear L;have j:=zq H;clear H;go_wp2;go_loopg [6] af (fun J v6 w'=>∃ (n:Int),v6 = .int .i64 n/\Zq (lychgateref08_Scan.l1 J a0 r n=some (M,O,U))/\Zq (J<=af)/\Zq (Kd.R k49 49 w' w.heap.size (fun _=>True) u5 r)/\Zq (Below w.heap.size w w'));case atStart=>exact ⟨(d),kaf,j,⟨qad _⟩,⟨kaj⟩,⟨kaa⟩⟩
        case round=>
         clear j;(try clear c1);(try clear c2);(try clear aM);(try clear aN);(try clear p2);(try clear c3);(try clear aV);(try clear c4);(try clear br);(try clear p5);(try clear q5);(try clear bs);(try clear p6);(try clear c7);(try clear ad);(try clear aW);(try clear c8);(try clear aX);(try clear aY);(try clear c9);(try clear aZ);(try clear bb);(try clear c10);(try clear L);(try clear bp);(try clear bq);(try clear p2);(try clear p5);(try clear q5);obtain ⟨n,rfl,G,a6,aq,HB⟩:=hrel;cases gk with
         | zero=>exact absurd G.o (by simp [lychgateref08_Scan.l1])
         | succ k3=>
          have H:=G.o;clear G;simp only [lychgateref08_Scan.l1] at H;by_cases c12:n<(a0.size:Int)
          ·rw [if_pos c12] at H;have b5:decide (n<(a0.size:Int))=true:=qab c12;clear c12;by_cases aI:0<=n
           ·rw [if_pos aI] at H;have bG:decide (0<=n)=true:=qab aI;clear aI;by_cases Y:(bt a0 n)=10
            ·rw [if_pos Y] at H;have b6:((bt a0 n)==10)=true:=qaq.mpr Y;have b7:((bt a0 n)!=10)=false:=qap.mpr Y;clear Y;have j:=zq H;clear H;have aG:0<=(n:Int):=kao;have aH:n<(a0.size:Int):=kao;have bB:=zcm a0 n;replace aG:=eq_true aG;replace aH:=eq_true aH;go_wp2
             go_roundg k3
             case measure=>have:=u.o;have:=I.o;have:=a6.o;omega
             case rel=>exact ⟨(r),(n),kaf,j,⟨by have:=u.o;have:=I.o;have:=a6.o;omega⟩,⟨kaj⟩,⟨kaa⟩⟩
            rw [if_neg Y] at H;have b6:((bt a0 n)==10)=false:=qag.mpr Y;have b7:((bt a0 n)!=10)=true:=qax.mpr Y;have j:=zq H;clear H;have aG:0<=(n:Int):=kao;have aH:n<(a0.size:Int):=kao;have bB:=zcm a0 n;replace aG:=eq_true aG;replace aH:=eq_true aH;go_wp2
            go_roundg k3
            case measure=>have:=u.o;have:=I.o;have:=a6.o;omega
            case rel=>exact ⟨(wrap64 (n+1)),kaf,j,⟨by have:=u.o;have:=I.o;have:=a6.o;omega⟩,⟨kaj⟩,⟨kaa⟩⟩
           rw [if_neg aI] at H;exact absurd H (by simp)
          rw [if_neg c12] at H;have b5:decide (n<(a0.size:Int))=false:=qai c12;clear c12;have j:=zq H;clear H;go_wp2
          go_roundg k3
          case measure=>have:=u.o;have:=I.o;have:=a6.o;omega
          case rel=>exact ⟨(r),(n),kaf,j,⟨by have:=u.o;have:=I.o;have:=a6.o;omega⟩,⟨kaj⟩,⟨kaa⟩⟩
       rw [if_neg L] at H;have bp:((bt a0 d)==35)=false:=qag.mpr L;have bq:((bt a0 d)!=35)=true:=qax.mpr L;obtain ⟨⟨x,y,z,A,B,a8,aQ,a1⟩,bo,H⟩:=kbd H;(try dsimp only at H);by_cases Z:a1=0
       ·rw [if_pos Z] at H;have b8:(a1==0)=true:=qaq.mpr Z;have b9:(a1 !=0)=false:=qap.mpr Z;clear Z;by_cases aJ:r.length<2513169434916
        ·rw [if_pos aJ] at H;have b1:=zq aJ;clear aJ;obtain ⟨bv,aE⟩:∃ y_:List (S49),y_=(r++[(⟨x,y,z,(⟨A,B⟩:S47),d⟩:S49)]):=⟨_,rfl⟩;replace H:(lychgateref08_Scan.l0 af a0 bv aQ)=some (M,O,U):=(by first|(rw [aE];with_reducible exact H)|(have X:=(qak _ _).symm.trans H;rw [aE];with_reducible exact X)|(have X:=(qak _ _).symm.trans H;with_reducible exact X)|with_reducible exact H|(rw [aE];exact H)|exact H);have b4:=zq aE;clear aE;have j:=zq H;clear H;go_upto_region 20 with (first|((with_reducible refine zar (f:=55) rfl ?_);refine zbr (some 46) rfl rfl func55 kae rfl #[.string a0,.int .i64 d] rfl kac ?_;(with_reducible refine (lychgateref08_one.calls af a0 d x y z A B a8 aQ a1 _ bo.o).mono ?_);rintro e cn ⟨rfl,q⟩;refine ⟨_,rfl,?_⟩;replace aq:=zq (Kd.R_below kaj q);replace HB:=zq (zau kaa q);(try clear q);(try clear bA);(try clear hk);(try clear hi))|((with_reducible refine zcf (N:=8) rfl ?_);refine zca ?hg (N:=8) ?hd (cs:=#[.int .i64 0,.string (⟨#[]⟩:ByteArray),.int .i64 0,.int .i64 0,.int .i64 0,.int .i64 0]) (t:=49) ?hr ?_;(case hd=>rfl);(case hg=>rfl);(case hr=>first|(go_simp;done)|(go_simp;rfl));intro i hg aR aC q;have aA:=zq aC;have D:=zq (kge hg (zas kaa):w.heap.size<=i);replace aq:=zq (Kd.R_below (Kd.R_elderB kaj i (Nat.le_of_eq hg.symm)) q);replace HB:=zq (zau kaa q);clear q aC hg;obtain ⟨bM,bN,bO,bP,bQ,bR,bY,bZ,ca,cb,cc,cd⟩:=zby aA.o));have E:(((((((aR.setCell ⟨i,0,none⟩ (.int .i64 x)).setCell ⟨i,1,none⟩ (.string y)).setCell ⟨i,2,none⟩ (.int .i64 z)).setCell ⟨i,3,none⟩ (.int .i64 A)).setCell ⟨i,4,none⟩ (.int .i64 B)).setCell ⟨i,5,none⟩ (.int .i64 a8)).setCell ⟨i,5,none⟩ (.int .i64 d)).heap[i]?=some (.cells #[.int .i64 x,.string y,.int .i64 z,.int .i64 A,.int .i64 B,.int .i64 d] 49 (0,0)):=zan (zan (zan (zan (zan (zan (zan (aA.o) 0 _ rfl) 1 _ rfl) 2 _ rfl) 3 _ rfl) 4 _ rfl) 5 _ rfl) 5 _ rfl;have a7:Kd.R k49 49 (((((((aR.setCell ⟨i,0,none⟩ (.int .i64 x)).setCell ⟨i,1,none⟩ (.string y)).setCell ⟨i,2,none⟩ (.int .i64 z)).setCell ⟨i,3,none⟩ (.int .i64 A)).setCell ⟨i,4,none⟩ (.int .i64 B)).setCell ⟨i,5,none⟩ (.int .i64 a8)).setCell ⟨i,5,none⟩ (.int .i64 d)) w.heap.size (fun k_=>True/\k_≠i) u5 r:=Kd.R_far (p:=⟨i,5,none⟩) (Kd.R_far (p:=⟨i,5,none⟩) (Kd.R_far (p:=⟨i,4,none⟩) (Kd.R_far (p:=⟨i,3,none⟩) (Kd.R_far (p:=⟨i,2,none⟩) (Kd.R_far (p:=⟨i,1,none⟩) (Kd.R_far (p:=⟨i,0,none⟩) (aq.o) (fun _ hk=>hk.2) _) (fun _ hk=>hk.2) _) (fun _ hk=>hk.2) _) (fun _ hk=>hk.2) _) (fun _ hk=>hk.2) _) (fun _ hk=>hk.2) _) (fun _ hk=>hk.2) _;have bk:Below w.heap.size w (((((((aR.setCell ⟨i,0,none⟩ (.int .i64 x)).setCell ⟨i,1,none⟩ (.string y)).setCell ⟨i,2,none⟩ (.int .i64 z)).setCell ⟨i,3,none⟩ (.int .i64 A)).setCell ⟨i,4,none⟩ (.int .i64 B)).setCell ⟨i,5,none⟩ (.int .i64 a8)).setCell ⟨i,5,none⟩ (.int .i64 d)):=zaj (zaj (zaj (zaj (zaj (zaj (zaj (HB.o) D.o) D.o) D.o) D.o) D.o) D.o) D.o;generalize ((((((aR.setCell ⟨i,0,none⟩ (.int .i64 x)).setCell ⟨i,1,none⟩ (.string y)).setCell ⟨i,2,none⟩ (.int .i64 z)).setCell ⟨i,3,none⟩ (.int .i64 A)).setCell ⟨i,4,none⟩ (.int .i64 B)).setCell ⟨i,5,none⟩ (.int .i64 a8)).setCell ⟨i,5,none⟩ (.int .i64 d)=W2 at E a7 bk ⊢;have bw:=zq E;have bx:=zq a7;have aj:=zq bk;have bF:W2.cell? ⟨i,0,none⟩=some (.int .i64 x):=zab E 0;have bH:W2.cell? ⟨i,1,none⟩=some (.string y):=zab E 1;have bI:W2.cell? ⟨i,2,none⟩=some (.int .i64 z):=zab E 2;have bJ:W2.cell? ⟨i,3,none⟩=some (.int .i64 A):=zab E 3;have bK:W2.cell? ⟨i,4,none⟩=some (.int .i64 B):=zab E 4;have bL:W2.cell? ⟨i,5,none⟩=some (.int .i64 d):=zab E 5;clear E a7 bk HB aA aq;go_wp2_with (((with_reducible refine zav (b := .append) (xs:=#[.tmp 56,.tmp 58]) rfl ?_);at_builtin;refine Kd.R_append k49 (w0:=w) w.heap.size rfl (.tmp 56) (.tmp 58) 43 49 (.agg #[(.int .i64 0),(.string ⟨#[]⟩),(.int .i64 0),(.int .i64 0),(.int .i64 0),(.int .i64 0)]) 56 rfl underlying43 zrx rfl kad kab u5 r (⟨x,y,z,(⟨A,B⟩:S47),d⟩:S49) [.int .i64 x,.string y,.int .i64 z,.int .i64 A,.int .i64 B,.int .i64 d] (fun k_=>k_≠i) (fun _=>False) rfl (by first|(go_simp;done)|(go_simp;rfl)) ?aP (fun _ hk=>hk.elim) ?aF ?aO ?aB ?aS ?aL ?_;(case aP=>exact zop _ _ _ (⟨x,y,z,(⟨A,B⟩:S47),d⟩:S49));(case aB=>exact (by repeat (first|(with_reducible first|exact aj.o|apply zad|apply zaa|apply zae|refine zaj ?_ D.o)|exact aj.o)));(case aF=>exact (fun k_ hk=>Kd.freshB (g:=i) (o := .cells #[.int .i64 x,.string y,.int .i64 z,.int .i64 A,.int .i64 B,.int .i64 d] 49 (0,0)) (by (with_reducible repeat (first|refine zah ?_ _|refine zak ?_|refine zaf ?_ _));exact bw.o) k_ hk));(case aO=>exact (by (with_reducible repeat (first|apply Kd.R_alloc|apply Kd.R_drewN|apply Kd.R_drew));exact Kd.R_mono bx.o (fun _ hk=>hk.2)));(case aS=>exact (zas (by repeat (first|(with_reducible first|exact aj.o|apply zad|apply zaa|apply zae|refine zaj ?_ D.o)|exact aj.o))));(case aL=>have:=b1.o;omega);intro cm cp ho q hg bd;rw [<-b4.o] at ho;have HB:=zq q;have b0:=zq ho;clear ho q hg bd))
         go_roundg af
         case measure=>have:=u.o;have:=I.o;omega
         case rel=>exact ⟨(bv),(aQ),kaf,j,⟨by have:=u.o;have:=I.o;omega⟩,⟨by (with_reducible repeat (first|apply Kd.R_alloc|apply Kd.R_drewN|apply Kd.R_drew));exact Kd.R_mono b0.o (fun _ hk=>trivial)⟩,⟨by repeat (first|(with_reducible first|exact HB.o|apply zad|apply zaa|apply zae|refine zaj ?_ D.o)|exact HB.o)⟩⟩
        rw [if_neg aJ] at H;exact absurd H (by simp)
       rw [if_neg Z] at H;have b8:(a1==0)=false:=qag.mpr Z;have b9:(a1 !=0)=true:=qax.mpr Z;simp only [qah,qao] at H;obtain ⟨rfl,rfl,rfl⟩:=H;go_wp2_with (first|((with_reducible refine zar (f:=55) rfl ?_);refine zbr (some 46) rfl rfl func55 kae rfl #[.string a0,.int .i64 d] rfl kac ?_;(with_reducible refine (lychgateref08_one.calls af a0 d x y z A B a8 aQ a1 _ bo.o).mono ?_);rintro e cq ⟨rfl,q⟩;refine ⟨_,rfl,?_⟩;replace aq:=zq (Kd.R_below kaj q);replace HB:=zq (zau kaa q);(try clear q);(try clear bA);(try clear hk);(try clear hi))|((with_reducible refine zcf (N:=8) rfl ?_);refine zca ?hg (N:=8) ?hd (cs:=#[.int .i64 0,.string (⟨#[]⟩:ByteArray),.int .i64 0,.int .i64 0,.int .i64 0,.int .i64 0]) (t:=49) ?hr ?_;(case hd=>rfl);(case hg=>rfl);(case hr=>first|(go_simp;done)|(go_simp;rfl));intro i hg cr aC q;have aA:=zq aC;have D:=zq (kge hg (zas kaa):w.heap.size<=i);replace aq:=zq (Kd.R_below (Kd.R_elderB kaj i (Nat.le_of_eq hg.symm)) q);replace HB:=zq (zau kaa q);clear q aC hg;obtain ⟨bS,bT,bU,bV,bW,bX,ce,cf,cg,ch,ci,cj⟩:=zby aA.o))
       go_ret3
       exact ⟨_,by first|rfl|(simp [zap,zao]<;>rfl)|(simp [*,zap,zao]<;>rfl),by first|exact Kd.R_nil _ _ _ _ _|exact Kd.N_nil _ _ _ _ _|exact Kd.V_nil _ _ _ _ _|exact Kd.Q_nil _ _ _ _ _|exact Kd.S_nil _ _ _ _ _,by repeat (first|(with_reducible first|exact HB.o|apply zad|apply zaa|apply zae|refine zaj ?_ D.o)|exact HB.o)⟩
    rw [if_neg c4] at H;exact absurd H (by simp)
   rw [if_neg c3] at H;have aV:decide (d<(a0.size:Int))=false:=qai c3;clear c3;by_cases aK:r.length<2513169434916
   ·rw [if_pos aK] at H;have b2:=zq aK;clear aK;obtain ⟨bE,aD⟩:∃ y_:List (S49),y_=(r++[(⟨8,(⟨#[]⟩:ByteArray),0,(⟨0,0⟩:S47),(a0.size:Int)⟩:S49)]):=⟨_,rfl⟩;replace H:(some (bE,0,0))=some (M,O,U):=(by first|(rw [aD];with_reducible exact H)|(have X:=(qak _ _).symm.trans H;rw [aD];with_reducible exact X)|(have X:=(qak _ _).symm.trans H;with_reducible exact X)|with_reducible exact H|(rw [aD];exact H)|exact H);have b3:=zq aD;clear aD;simp only [qah,qao] at H;obtain ⟨rfl,rfl,rfl⟩:=H;go_wp2_with (first|((with_reducible refine zav (b := .append) (xs:=#[.tmp 61,.tmp 65]) rfl ?_);at_builtin;refine Kd.R_append k49 (w0:=w) w.heap.size rfl (.tmp 61) (.tmp 65) 43 49 (.agg #[(.int .i64 0),(.string ⟨#[]⟩),(.int .i64 0),(.int .i64 0),(.int .i64 0),(.int .i64 0)]) 56 rfl underlying43 zrx rfl kad kab u5 r (⟨8,(⟨#[]⟩:ByteArray),0,(⟨0,0⟩:S47),(a0.size:Int)⟩:S49) [.int .i64 8,.string (⟨#[]⟩:ByteArray),.int .i64 0,.int .i64 0,.int .i64 0,.int .i64 (a0.size:Int)] (fun _=>True) (fun _=>False) rfl rfl ?aP (fun _ hk=>hk.elim) ?aF ?aO ?aB ?aS ?aL ?_;(case aP=>exact zop _ _ _ (⟨8,(⟨#[]⟩:ByteArray),0,(⟨0,0⟩:S47),(a0.size:Int)⟩:S49));(case aB=>exact kaa);(case aF=>exact (fun _ _=>trivial));(case aO=>exact kaj);(case aS=>exact (zas kaa));(case aL=>have:=b2.o;omega);intro cl ct ho q hg bd;rw [<-b3.o] at ho;have E:=zq q;have a7:=zq ho;clear HB;clear aq;have HB:=E;have bz:=a7;clear E a7;clear ho q hg bd))
    go_ret3
    exact ⟨_,by first|rfl|(simp [zap,zao]<;>rfl)|(simp [*,zap,zao]<;>rfl),by (with_reducible repeat (first|apply Kd.R_alloc|apply Kd.R_drewN|apply Kd.R_drew));exact bz.o,kaa⟩
   rw [if_neg aK] at H;exact absurd H (by simp)
def zuh (w0 W:World) (g:Nat) (f0:List (S49)) (f1:Int) (f2:Int) (f3:Int):Prop:=∃ b c0,W.heap[g]?=some (.cells #[.slice b f0.length c0,.int .i64 f1,.int .i64 f2,.int .i64 f3] 79 (0,0))/\w0.heap.size<=g/\Kd.C k49 w0 b f0.length f0
theorem zuh.drewN {w0 W:World} {g:Nat} {f0:List (S49)} {f1:Int} {f2:Int} {f3:Int} (h:zuh w0 W g f0 f1 f2 f3) (m:Nat):zuh w0 (W.drewN m) g f0 f1 f2 f3:=h
theorem zuh.at_ {w0 W:World} {g:Nat} {f0:List (S49)} {f1:Int} {f2:Int} {f3:Int} {w':World} {m:Nat} (b:W.drewN m=w') (h:zuh w0 W g f0 f1 f2 f3):zuh w0 w' g f0 f1 f2 f3:=by subst b;exact zuh.drewN h m
end
section
attribute [local go_sem] zdu zds zek zej zcv zcu zdt zdr
def lychgatelaw09_pick.f (a0:Int) (a1:Int):Option (Int):=if a0<0 then (if a1=0 then (none) else (some (Int.tmod (wrap64 (-(wrap64 (a0+1)))) a1))) else (if a1=0 then (none) else (some (Int.tmod a0 a1)))
theorem lychgatelaw09_pick.calls (a0:Int) (a1:Int) (r:Int) (w:World) (h:lychgatelaw09_pick.f a0 a1=some r) :
  Calls prog 17 #[.int .i64 a0,.int .i64 a1] w fun e w'=>e = .returned (.int .i64 r)/\Drawn0 w w':=by
 have H:(if a0<0 then (if a1=0 then (none) else (some (Int.tmod (wrap64 (-(wrap64 (a0+1)))) a1))) else (if a1=0 then (none) else (some (Int.tmod a0 a1))))=some r:=h;clear h;by_cases c3:a0<0
 ·rw [if_pos c3] at H;have b:decide (a0<0)=true:=qab c3;clear c3;by_cases c4:a1=0
  ·rw [if_pos c4] at H;exact absurd H (by simp)
  rw [if_neg c4] at H;have d:(a1==0)=false:=qag.mpr c4;have i:(a1 !=0)=true:=qax.mpr c4;obtain rfl:=qaa H;go_enter func17,ntmps17;go_wp2;go_ret;exact ⟨kaf,by repeat (first|exact Drawn0.refl _|apply Drawn0.step)⟩
 rw [if_neg c3] at H;have b:decide (a0<0)=false:=qai c3;clear c3;by_cases c5:a1=0
 ·rw [if_pos c5] at H;exact absurd H (by simp)
 rw [if_neg c5] at H;have j:(a1==0)=false:=qag.mpr c5;have n:(a1 !=0)=true:=qax.mpr c5;obtain rfl:=qaa H;go_enter func17,ntmps17;go_wp2;go_ret;exact ⟨kaf,by repeat (first|exact Drawn0.refl _|apply Drawn0.step)⟩
end
end Go.Proofs.YtjeekocidaogoaaGreatDoor.H
namespace Go.Proofs.YtjeekocidaogoaaGreatDoor.Hand
open Go.RowKit Go.Proofs.YtjeekocidaogoaaGreatDoorW.PrintWords
section
section
variable {H:Type} {enc:TypeId×Value->H}
theorem handed_shaped {a:Assume} {C:Checked} {os:Os} {f:FuncId} {fn:Func} {s:ChangeSpec} {conds:List PathCond} {apart fresh handsOn again:Bool} {X:World->Array Value->Prop}
  (o:∀ (w w':World) (args:Array Value),w.heap=w'.heap->X w args->X w' args)
  (own:ownKnob C.prog.godebug=none) (started:os.Started) (I:C.prog.inits.idxOf? f=none) (r:C.prog.funcs[f]?=some fn)
  (witness:∃ (w:World) (tape:Tape) (i:Input),w.os=os/\(w.forCall tape i).Shaped C.prog/\i.vars=[]/\Input.okWide C.prog (w.forCall tape i) .any w.heap.size f i /\
   ((s.pre enc C.prog fn conds apart (w.forCall tape i).memory i.args/\X (w.forCall tape i).memory i.args)/\sizedMet enc C.prog fn (OpenSpec.ofChange s) apart (w.forCall tape i).memory i.args)/\a.holds C.prog (lone (Frame.enter C.prog f i.args .normal) [] (w.forCall tape i)))
  (d:∀ (W:World) (base:Nat) (args:Array Value) (ds gs:List (DataW H)) (before:List MemPlace),
   (∀ (j:Nat) t v,fn.params[j]?=some t->args[j]?=some v->Value.okWide C.prog W .any base t v) ->
   DataW.Whole enc C.prog fn.params.toList s.vars apart W args.toList ds gs before ->
   conds.all (PathCond.test C.prog ⟨fn.params.toList,ds,s.plain.varTypes C.prog,gs⟩)=true ->
   (DataW.weightsEach C.prog (fn.params.toList++s.plain.varTypes C.prog) (ds++gs)).all (·<=reachBytes)=true->X W args->W.ShapedOpen C.prog ->
   a.holds C.prog (lone (Frame.enter C.prog f args .normal) [] W) ->
   Calls C.prog f args W fun e W'=>∃ v,e = .returned v/\s.post enc C.prog fn apart fresh handsOn again W args v W') :
  ReturnsInHanded a C os f .any (fun w args=>(s.pre enc C.prog fn conds apart w args/\X w args)/\sizedMet enc C.prog fn (OpenSpec.ofChange s) apart w args) (s.post enc C.prog fn apart fresh handsOn again):=by
 refine returnsInHanded_of_calls own started I witness ?_;intro w tape i _ A _ y z x;obtain ⟨_,_,_,n,u,_,_,_,_,B⟩:=y;have e:n=fn:=qaa (u.symm.trans r);subst e;obtain ⟨⟨⟨ds,gs,before,b,p⟩,E⟩,G⟩:=z;have D:=DataW.Whole.of_heap (w':=w.forCall tape i) (by rfl) b;refine (d (w.forCall tape i) w.heap.size i.args ds gs before B D p (G.weights b) (o _ _ _ (by rfl) E) A x).mono fun e W' ⟨v,q,hp⟩=>?_;subst q;exact ChangeSpec.post_blind hp
end
abbrev zon:List (String×DataW Unit):=[("math/bits.deBruijn32tab", Rows.laid_math_bits_deBruijn32tab),("math/bits.deBruijn64tab", Rows.laid_math_bits_deBruijn64tab),("internal/strconv.uint64pow10", Rows.laid_internal_strconv_uint64pow10),("unicode/utf8.acceptRanges", Rows.laid_unicode_utf8_acceptRanges),("strconv.ErrRange", Rows.laid_strconv_ErrRange),("strconv.ErrSyntax", Rows.laid_strconv_ErrSyntax),("unicode.White_Space", Rows.laid_unicode_White_Space),("strings.asciiSpace", Rows.laid_strings_asciiSpace),("unicode/utf8.first", Rows.laid_unicode_utf8_first)]
theorem zvl:("*errors.errorString" : String) = "*" ++ "errors.errorString" := by decide
theorem zss (u:TypeId) (h:prog.typeName? 3 u=some "*errors.errorString"):u=234:=
 typeName_ptr_named (nm := "errors.errorString") (by rw [<-zvl];kernel_rfl) kae kad u (by rw [<-zvl];exact h)
theorem zun {W:World} {name:String} {k:IntKind} {b:List Int} {g:Nat} {t e:TypeId} {n:Nat} {d:DataW Unit}
  (hg:prog.globalNamed name=some g) (w:(prog.globals[g]?).map (·.type)=some t) (ht:prog.underlying t=some (.array n e)) (o:prog.underlying e=some (.int k)) (i:prog.cellsOf e=1) (j:prog.cellsOf t=n)
  (hd:d=Lib.tabData k b) (h:laidMet prog zon W) (r:(name,d)∈zon):Lib.TabIs prog W name k b:=by
 obtain ⟨z,A,cs,y,p,q,u,x,hr⟩:=Lib.laidMet.reads h r;obtain rfl:=qaa (hg.symm.trans q);obtain rfl:=qaa (w.symm.trans u);subst hd;unfold Lib.TabIs;rw [x,<-Lib.cells_of_tab ht o i j hr]
theorem inv_of_laid {W:World} (h:laidMet prog zon W) (i:W.ShapedOpen prog):Inv W where
 space:=zun (g:=0) kae kae (t:=155) (n:=256) kae (e:=5) kae kae kae (d:=Rows.laid_strings_asciiSpace) kae h (by simp [zon])
 pow10:=zun (g:=5) kae kae (t:=238) (n:=20) kae (e:=212) kae kae kae (d:=Rows.laid_internal_strconv_uint64pow10) kae h (by simp [zon])
 errR:=by
  obtain ⟨a,s,b,_⟩:=laid_sentinel (g:=4) h.tail.tail.tail.tail kae kae (ti:=139) underlying139 zss kae (te:=236) underlying236 rfl rfl (ts:=9) kae kae kae;exact ⟨_,_,b⟩
 errS:=by
  obtain ⟨a,s,b,_⟩:=laid_sentinel (g:=3) h.tail.tail.tail.tail.tail kae kae (ti:=139) underlying139 zss kae (te:=236) underlying236 rfl rfl (ts:=9) kae kae kae;exact ⟨_,_,b⟩
 maxLen:=Tryz.laysM145.s1_3 W i
end
end Go.Proofs.YtjeekocidaogoaaGreatDoor.Hand
namespace Go.Proofs.YtjeekocidaogoaaGreatDoor.H
open Go.RowKit Go.Proofs.YtjeekocidaogoaaGreatDoor.Hand Go.Proofs.YtjeekocidaogoaaGreatDoorW.PrintWords Go.Proofs.YtjeekocidaogoaaGreatDoorW.PrintLast Go.Proofs.YtjeekocidaogoaaGreatDoorW.PrintMore
section
mutual
def wt:S60->Nat
 | ⟨_,_,_,p,s,n,l,_⟩=>1+p.length+s.length+n.length+wtL l
def wtL:List S60->Nat
 | []=>0
 | c::r=>wt c+wtL r
end
theorem zsm (x:S60):wt x=1+x.f3.length+x.f4.length+x.f5.length+wtL x.f6:=by cases x;rw [wt]
theorem zmu:∀ (l r:List S60),wtL (l++r)=wtL l+wtL r
 | [],r=>by simp [wtL]
 | c::l,r=>by rw [List.cons_append,wtL,zmu l r,wtL];omega
theorem znz (c:S60):wtL [c]=wt c:=by simp [wtL]
theorem zsl (x:S60):1<=wt x:=by rw [zsm];omega
theorem zmt:∀ (l:List S60),l.length<=wtL l
 | []=>by simp
 | c::r=>by have h1:=zmt r;have b:=zsl c;rw [wtL,qay];omega
def wtI:List S62->Nat
 | []=>0
 | x::r=>1+wt x.f2+wtI r
theorem zmw:∀ (l r:List S62),wtI (l++r)=wtI l+wtI r
 | [],r=>by simp [wtI]
 | c::l,r=>by rw [List.cons_append,wtI,zmw l r,wtI];omega
theorem zmv:∀ (l:List S62),l.length<=wtI l
 | []=>by simp
 | c::r=>by have h1:=zmv r;rw [wtI,qay];omega
def OnW {α:Type} (f:α->Nat) (i:Nat) (r:Option (PR α)):Prop:=∀ x j,r=some (.ok x j)->i+f x<=j
theorem OnW.none {α:Type} {f:α->Nat} {i:Nat}:OnW f i none:=fun x j h=>by cases h
theorem OnW.bad {α:Type} {f:α->Nat} {i:Nat} {e p:Int}:OnW (α:=α) f i (some (.bad e p)):=fun x j h=>by cases h
theorem OnW.ok {α:Type} {f:α->Nat} {i j:Nat} {x:α} (h:i+f x<=j):OnW f i (some (.ok x j)):=fun y m e=>by cases e;exact h
section
variable (toks:List Tok)
theorem zhd (s:ByteArray) (i:Nat):OnW (fun _=>1) i (some (zdf toks s i)):=by
 unfold zdf;split
 ·exact .ok (qad _)
 exact .bad
theorem zok (k:Int) (i:Nat):OnW (fun _=>1) i (some (ofP toks k i)):=by
 unfold ofP;split
 ·exact .ok (qad _)
 exact .bad
theorem OnW.bind {α β:Type} {g:α->Nat} {f:β->Nat} {i:Nat} {r:PR α} {F:α->Nat->PR β} (h:OnW g i (some r)) (hf:∀ x j,i+g x<=j->OnW f i (some (F x j))):OnW f i (some (r.bind F)):=by
 cases r with
 | bad e p=>exact .bad
 | ok a j=>exact hf a j (h a j rfl)
theorem addrE_w (i:Nat):OnW (fun _=>1) i (some (zgg toks i)):=(zok toks 5 i).bind fun _ j h => .ok h
theorem methodE_w (i:Nat):OnW (fun _=>1) i (some (zdp toks i)):=(zok toks 3 i).bind fun _ j h => .ok h
theorem portE_w (i:Nat):OnW (fun _=>1) i (some (zfg toks i)):=(zok toks 4 i).bind fun t j h=>by
 have h:i+1<=j:=h;split
 ·intro x m d;have e:j+1+1<=m:=((zok toks 4 (j+1)).bind (f:=fun _=>1) fun u q b=>OnW.ok b) x m d;show i+1<=m;omega
 exact .ok h
theorem listL_w {β:Type} (elem:Nat->PR β) (want:Int) (r:∀ i,OnW (fun _=>1) i (some (elem i))) (i0:Nat):∀ (k i:Nat) (acc:List β),i0+acc.length<=i->OnW List.length i0 (zhb toks elem want k i acc):=by
 intro k;induction k with
 | zero=>intro i acc h;exact .none
 | succ k w=>
  intro i acc h;unfold zhb;split
  ·exact .bad
  have h1:=r i;cases hr:elem i with
  | bad e p=>exact .bad
  | ok b j=>
   rw [hr] at h1;have y:i+1<=j:=h1 b j rfl;dsimp only;split
   ·exact w (j+1) (acc++[b]) (by rw [qas,qbb];omega)
   intro x m d;have n:=zhd toks zgz j;cases o:zdf toks zgz j with
   | bad e p=>rw [o] at d;simp [PR.bind] at d
   | ok u q=>
    rw [o] at d n;have z:j+1<=q:=n u q rfl;simp only [PR.bind,qah,PR.ok.injEq] at d;obtain ⟨rfl,rfl⟩:=d;rw [qas,qbb];omega
theorem zqu {β:Type} (elem:Nat->PR β) (want:Int) (d:∀ i,OnW (fun _=>1) i (some (elem i))) (k i:Nat):OnW List.length i (zhl toks elem want k i):=by
 unfold zhl;have h1:=zhd toks sIn i;cases hr:zdf toks sIn i with
 | bad e p=>exact .bad
 | ok u j=>
  rw [hr] at h1;have o:=h1 u j rfl;dsimp only;have b:=zhd toks zjr j;cases n:zdf toks zjr j with
  | bad e p=>exact .bad
  | ok u2 m=>
   rw [n] at b;have q:=b u2 m rfl;exact listL_w toks elem want d i k m [] kbv
theorem OnW.map {α β:Type} {g:α->Nat} {f:β->Nat} {i c:Nat} {r:Option (PR α)} {F:α->β} (h:OnW g i r) (hf:∀ x,f (F x)<=c+g x):OnW (fun b=>f b-c) i (r.map fun r=>r.bind fun l j => .ok (F l) j):=by
 intro x j d
 match r,h with
 | some (.ok a m),h=>
  have h1:=h a m rfl;have n:=hf a;simp only [Option.map_some,PR.bind,qah,PR.ok.injEq] at d;obtain ⟨rfl,rfl⟩:=d;show i+(f (F a)-c)<=m;omega
 | some (.bad e p),h=>simp [PR.bind] at d
 | .none,h=>simp at d
theorem atomP_w (t:Tok) (k i:Nat):OnW (fun c:CD=>wt c.1-1) i (zow toks t k i):=by
 unfold zow;split
 ·exact .ok (by simp [wt,wtL])
 split
 ·exact .ok (by simp [wt,wtL])
 split
 ·exact (zqu toks (zgg toks) 5 (addrE_w toks) k i).map (f:=fun c:CD=>wt c.1) (c:=1) (F:=fun l=>((⟨7,⟨#[]⟩,⟨#[]⟩,l,[],[],[],t.place⟩:S60),1)) fun x=>by simp [wt,wtL]
 split
 ·exact (zqu toks (zfg toks) 4 (portE_w toks) k i).map (f:=fun c:CD=>wt c.1) (c:=1) (F:=fun l=>((⟨8,⟨#[]⟩,⟨#[]⟩,[],l,[],[],t.place⟩:S60),1)) fun x=>by simp [wt,wtL]
 split
 ·exact (zqu toks (zdp toks) 3 (methodE_w toks) k i).map (f:=fun c:CD=>wt c.1) (c:=1) (F:=fun l=>((⟨9,⟨#[]⟩,⟨#[]⟩,[],[],l,[],t.place⟩:S60),1)) fun x=>by simp [wt,wtL]
 split
 ·exact (zhd toks zck i).bind fun _ j h=>(show OnW _ i _ from fun x m b=>by
   have h:i+1<=j:=h;have:=((zok toks 6 j).bind (f:=fun c:CD=>wt c.1-1) fun u q (d:j+1<=q)=>OnW.ok (by simp [wt,wtL];omega)) x m b;dsimp only at this ⊢;omega)
 split
 ·exact (zok toks 6 i).bind fun n j h=>(show OnW _ i _ from fun x m b=>by
   have h:i+1<=j:=h;have:=((zhd toks zck j).bind (f:=fun c:CD=>wt c.1-1) fun _ q d=>(show OnW _ j _ from fun x m b=>by
    have d:j+1<=q:=d;have:=((zok toks 6 q).bind (f:=fun c:CD=>wt c.1-1) fun u y (e:q+1<=y)=>OnW.ok (by simp [wt,wtL];omega)) x m b;dsimp only at this ⊢;omega)) x m b
   dsimp only at this ⊢;omega)
 split
 ·exact (zok toks 6 i).bind fun n j (h:i+1<=j) => .ok (by simp [wt,wtL];omega)
 exact .bad
theorem ztp (x:S60) (d i j:Nat) (h:i+wt x<=j):OnW (fun c:CD=>wt c.1) i (some (zjy x d j)):=by
 unfold zjy;split
 ·exact .bad
 exact .ok h
theorem rowL_w (part:Nat->Option (PR CD)) (hp:∀ i,OnW (fun c:CD=>wt c.1) i (part i)) (kind:Int) (word:ByteArray) (i0:Nat):∀ (k i:Nat) (l:List S60) (d:Nat),0<l.length->i0+wtL l+l.length<=i+1 ->
  OnW (fun c:CD=>wt c.1) i0 (rowL toks part kind word k i l d):=by
 intro k;induction k with
 | zero=>intro i l d o h;exact .none
 | succ k u=>
  intro i l d o h;unfold rowL;split
  ·split
   ·exact .bad
   have h1:=hp (i+1);cases hr:part (i+1) with
   | none=>exact .none
   | some r=>
    rw [hr] at h1;cases r with
    | bad e p=>exact .bad
    | ok c j=>
     have q:=h1 c j rfl;refine u j (l++[c.1]) (max d c.2) (by rw [qas];omega) ?_;rw [zmu,znz,qas,qbb];dsimp only at q;omega
  split
  ·refine .ok ?_;rw [znz,qbb] at h;dsimp only;omega
  rename_i n;refine ztp _ _ _ _ ?_;have q:2<=l.length:=by
   match l,o,n with
   | [c],_,n=>exact absurd rfl (n c)
   | a::b::r,_,_=>simp
  simp only [zsm,List.length_nil];omega
theorem zup (part:Nat->Option (PR CD)) (hp:∀ i,OnW (fun c:CD=>wt c.1) i (part i)) (kind:Int) (word:ByteArray) (k i:Nat):OnW (fun c:CD=>wt c.1) i (rowP toks part kind word k i):=by
 unfold rowP;have h1:=hp i;cases hr:part i with
 | none=>exact .none
 | some r=>
  rw [hr] at h1;cases r with
  | bad e p=>exact .bad
  | ok c j=>
   have b:=h1 c j rfl;exact rowL_w toks part hp kind word i k j [c.1] c.2 (by simp) (by rw [znz,qbb];dsimp only at b;omega)
theorem condP_w:∀ (k o i:Nat),OnW (fun c:CD=>wt c.1) i (zcd toks k o i):=by
 intro k;induction k with
 | zero=>intro o i;exact .none
 | succ k d=>
  intro o i
  match o with
  | 0=>unfold zcd;exact zup toks _ (d 1) 6 sOr k i
  | 1=>unfold zcd;exact zup toks _ (d 2) 5 sAnd k i
  | 2=>
   unfold zcd;split
   ·have h1:=d 2 (i+1);cases hr:zcd toks k 2 (i+1) with
    | none=>exact .none
    | some r=>
     rw [hr] at h1;cases r with
     | bad e p=>exact .bad
     | ok c j=>
      have w:=h1 c j rfl;dsimp only at w;refine ztp _ _ _ _ ?_;simp only [zsm,List.length_nil,znz];have:=zsm c.1;omega
   exact d 3 i
  | n+3=>
   unfold zcd;split
   ·have h1:=d 0 (i+1);cases hr:zcd toks k 0 (i+1) with
    | none=>exact .none
    | some r=>
     rw [hr] at h1;cases r with
     | bad e p=>exact .bad
     | ok c j=>
      have w:=h1 c j rfl;dsimp only at w;intro x m b;dsimp only at b;have y:=zhd toks zhf j;cases z:zdf toks zhf j with
      | bad e p=>rw [z] at b;simp [PR.bind] at b
      | ok u q=>
       rw [z] at b y;have A:j+1<=q:=y u q rfl;simp only [PR.bind,qah,PR.ok.injEq] at b;obtain ⟨rfl,rfl⟩:=b;dsimp only;omega
   split
   ·exact .ok (by simp [wt,wtL])
   split
   ·intro x j b;have:=atomP_w toks (tk toks i) k (i+1) x j b;dsimp only at this ⊢;have:=zsl x.1;omega
   exact .bad
theorem itemP_w (k n i:Nat):OnW (fun x:S62=>1+wt x.f2) i (zfq toks k n i):=by
 unfold zfq;split
 ·exact .bad
 split
 ·exact .bad
 have h1:=zok toks 2 (i+1);cases hr:ofP toks 2 (i+1) with
 | bad e p=>exact .bad
 | ok nm j=>
  rw [hr] at h1;have E:=h1 nm j rfl;dsimp only;split
  ·exact .bad
  rename_i u m D;have G:=zhd toks _ j _ _ (congrArg some D);have d:=condP_w toks k 0 m;split
  ·exact .none
  ·exact .bad
  rename_i c q B;rw [B] at d;have A:=d c q rfl;dsimp only at A;exact fun x y b=>((zhd toks ziz q).bind (f:=fun x:S62=>1+wt x.f2-(q-i)) fun _ r I=>OnW.ok (by dsimp only;omega)) x y b |> fun o=>by
   dsimp only at o ⊢;have J:q<=y:=kab;cases w:zdf toks ziz q with
   | bad e p=>rw [w] at b;simp [PR.bind] at b
   | ok u2 z=>
    rw [w] at b;simp only [PR.bind,qah,PR.ok.injEq] at b;obtain ⟨rfl,rfl⟩:=b;dsimp only at o ⊢;omega
theorem itemsP_w (k:Nat):∀ (f i:Nat) (acc:List S62),wtI acc<=i->OnW wtI 0 (zey toks k f i acc):=by
 intro f;induction f with
 | zero=>intro i acc h;exact .none
 | succ f d=>
  intro i acc h;unfold zey;split
  ·exact .ok kab
  have h1:=itemP_w toks k acc.length i;cases hr:zfq toks k acc.length i with
  | none=>exact .none
  | some r=>
   rw [hr] at h1;cases r with
   | bad e p=>exact .bad
   | ok x j=>
    have b:=h1 x j rfl;dsimp only at b;exact d j (acc++[x]) (by rw [zmw];simp only [wtI];omega)
theorem policyP_w {l:List S62} {j:Nat} (h:zil toks=some (.ok l j)):wtI l<=j:=by
 have:=itemsP_w toks (5*toks.length+4) (toks.length+1) 0 [] (qad _) l j h;omega
end
end
section
theorem zsw {W:World} {b i c:Nat} {A:Option Addr} {l:List S47} (h:Row W b 47 2 (.slice A l.length c) l.length (zqr l)) (hi:i<l.length):∃ g,A=some ⟨g,0,none⟩/\W.cell? ⟨g,i*2,none⟩=some (.int .i64 l[i].f0)/\W.cell? ⟨g,i*2+1,none⟩=some (.int .i64 l[i].f1):=by
 obtain ⟨A',o,e,-,hg⟩:=h.form;injection e with n q r;subst n;obtain ⟨g,p,rfl,j,-⟩:=hg kab;have d:=qan hi;exact ⟨g,rfl,h.cell j (i*2+0) _ (zoi l i _ d 0 kad),h.cell j _ _ (zoi l i _ d 1 kad)⟩
theorem zsr {W:World} {b i c:Nat} {A:Option Addr} {l:List S68} (h:Row W b 68 2 (.slice A l.length c) l.length (zqn l)) (hi:i<l.length):∃ g,A=some ⟨g,0,none⟩/\W.cell? ⟨g,i*2,none⟩=some (.int .i64 l[i].f0)/\W.cell? ⟨g,i*2+1,none⟩=some (.int .i64 l[i].f1):=by
 obtain ⟨A',o,e,-,hg⟩:=h.form;injection e with n q r;subst n;obtain ⟨g,p,rfl,j,-⟩:=hg kab;have d:=qan hi;exact ⟨g,rfl,h.cell j (i*2+0) _ (zoc l i _ d 0 kad),h.cell j _ _ (zoc l i _ d 1 kad)⟩
theorem zsq {W:World} {b i c:Nat} {A:Option Addr} {l:List ByteArray} (h:Row W b 9 1 (.slice A l.length c) l.length (zie l)) (hi:i<l.length):∃ g,A=some ⟨g,0,none⟩/\W.cell? ⟨g,i,none⟩=some (.string l[i]):=by
 obtain ⟨A',n,e,-,hg⟩:=h.form;injection e with d p q;subst d;obtain ⟨g,o,rfl,j,-⟩:=hg kab;exact ⟨g,rfl,h.cell j i _ (by rw [zie,qcd,qan hi];rfl)⟩
theorem zuv {W:World} {b i c:Nat} {A:Option Addr} {l:List S60} {cells:List Value} {L:List Nat} (h:Row W b 60 8 (.slice A l.length c) l.length cells) (hf:Forest W b l cells L) (hi:i<l.length) :
  ∃ g j n o p M,A=some ⟨g,0,none⟩/\(W.cell? ⟨g,i*8,none⟩=some (.int .i64 l[i].f0)/\W.cell? ⟨g,i*8+1,none⟩=some (.string l[i].f1)/\W.cell? ⟨g,i*8+2,none⟩=some (.string l[i].f2)/\W.cell? ⟨g,i*8+3,none⟩=some j/\W.cell? ⟨g,i*8+4,none⟩=some n/\W.cell? ⟨g,i*8+5,none⟩=some o/\W.cell? ⟨g,i*8+6,none⟩=some p/\W.cell? ⟨g,i*8+7,none⟩=some (.int .i64 l[i].f7)) /\
   Tree W b l[i] [.int .i64 l[i].f0,.string l[i].f1,.string l[i].f2,j,n,o,p,.int .i64 l[i].f7] M:=by
 obtain ⟨A',z,e,-,hg⟩:=h.form;injection e with q E G;subst q;obtain ⟨g,D,rfl,w,-⟩:=hg kab;obtain ⟨ds,M,ht,hr,-⟩:=hf.at i hi;obtain ⟨j,n,o,p,B,y,rfl,-⟩:=ht.open_;have d:∀ r u,r<8->[Value.int .i64 l[i].f0,.string l[i].f1,.string l[i].f2,j,n,o,p,.int .i64 l[i].f7][r]?=some u->W.cell? ⟨g,i*8+r,none⟩=some u:=fun r u x hu=>h.cell w _ u ((hr r x).trans hu);exact ⟨g,j,n,o,p,M,rfl,⟨d 0 _ kad rfl,d 1 _ kad rfl,d 2 _ kad rfl,d 3 _ kad rfl,d 4 _ kad rfl,d 5 _ kad rfl,d 6 _ kad rfl,d 7 _ kad rfl⟩,ht⟩
theorem Tree.rows {W wr:World} {b:Nat} {x:S60} {f0 f7:Int} {f1 f2:ByteArray} {v3 v4 v5 d:Value} {L:List Nat} (h:Tree W b x [.int .i64 f0,.string f1,.string f2,v3,v4,v5,d,.int .i64 f7] L) (n:Below W.heap.size W wr) :
  ∃ cells M,Row wr b 47 2 v3 x.f3.length (zqr x.f3)/\Row wr b 68 2 v4 x.f4.length (zqn x.f4)/\Row wr b 9 1 v5 x.f5.length (zie x.f5)/\Row wr b 60 8 d x.f6.length cells/\Forest wr b x.f6 cells M:=by
 have ht:=h.frame (w1:=wr) fun g hg=>n.block g (h.lt g hg).2;obtain ⟨u,w,y,z,j,i,e,-,o,p,q,r,hf⟩:=ht.open_;simp only [List.cons.injEq] at e;obtain ⟨-,-,-,rfl,rfl,rfl,rfl,-⟩:=e;exact ⟨j,i,o,p,q,r,hf⟩
theorem ztc {k n:Nat} (h:k<n):n-(intOf (.int .i64 ((k:Int)+1))).toNat<n-(intOf (.int .i64 (k:Int))).toNat:=by simp [intOf];omega
theorem zui:∀ {l:List S60} {i:Nat} (h:i<l.length),wt l[i]<=wtL l
 | a::l,0,_=>by rw [wtL];exact Nat.le_add_right _ _
 | a::l,i+1,h=>by
  have:=zui (l:=l) (i:=i) (by simpa using h);rw [wtL];exact qbf this (Nat.le_add_left _ _)
theorem kid_le {x:S60} {n i:Nat} (h:wt x=1+x.f3.length+x.f4.length+x.f5.length+wtL x.f6) (hn:wt x<=n+1) (hi:i<x.f6.length):wt x.f6[i]<=n:=by
 have:=zui hi;omega
theorem conds_true:∀ (n:Nat) (x:S60) (W:World) (b b':Nat) (cs cs':List Value) (L L':List Nat),wt x<=n->n<=100000->Tree W b x cs L->Tree W b' x cs' L' ->
  Calls prog 35 #[.agg cs.toArray,.agg cs'.toArray] W fun e w'=>e = .returned (.bool true)/\Below W.heap.size W w':=by
 intro n;induction n with
 | zero=>intro x W b b' cs cs' L L' h;have:=zsl x;omega
 | succ n ih=>
  intro x W b b' cs cs' L L' hn aC ht af;have hW:=zsm x;have aD:=zmt x.f6;obtain ⟨v3,v4,v5,v6,aI,aG,rfl,-,p,q,r,u,-⟩:=ht.open_;obtain ⟨u3,u4,u5,u6,aJ,aH,rfl,-,y,z,A,B,-⟩:=af.open_;obtain ⟨O,c3,rfl,-,-⟩:=p.form;obtain ⟨U,c4,rfl,-,-⟩:=q.form;obtain ⟨A5,c5,rfl,-,-⟩:=r.form;obtain ⟨A6,c6,rfl,-,-⟩:=u.form;obtain ⟨B3,d3,rfl,-,-⟩:=y.form;obtain ⟨X,d4,rfl,-,-⟩:=z.form;obtain ⟨Y,d5,rfl,-,-⟩:=A.form;obtain ⟨Z,d6,rfl,-,-⟩:=B.form;have aA:=((qam W.heap.size W).alloc (qad _) (.cells #[.int .i64 x.f0,.string x.f1,.string x.f2,.slice O x.f3.length c3,.slice U x.f4.length c4,.slice A5 x.f5.length c5,.slice A6 x.f6.length c6,.int .i64 x.f7] 60)).alloc (by simp) (.cells #[.int .i64 x.f0,.string x.f1,.string x.f2,.slice B3 x.f3.length d3,.slice X x.f4.length d4,.slice Y x.f5.length d5,.slice Z x.f6.length d6,.int .i64 x.f7] 60);have hx:=zaf (qac W (.cells #[.int .i64 x.f0,.string x.f1,.string x.f2,.slice O x.f3.length c3,.slice U x.f4.length c4,.slice A5 x.f5.length c5,.slice A6 x.f6.length c6,.int .i64 x.f7] 60)) (.cells #[.int .i64 x.f0,.string x.f1,.string x.f2,.slice B3 x.f3.length d3,.slice X x.f4.length d4,.slice Y x.f5.length d5,.slice Z x.f6.length d6,.int .i64 x.f7] 60);have hy:=qac (W.alloc (.cells #[.int .i64 x.f0,.string x.f1,.string x.f2,.slice O x.f3.length c3,.slice U x.f4.length c4,.slice A5 x.f5.length c5,.slice A6 x.f6.length c6,.int .i64 x.f7] 60)) (.cells #[.int .i64 x.f0,.string x.f1,.string x.f2,.slice B3 x.f3.length d3,.slice X x.f4.length d4,.slice Y x.f5.length d5,.slice Z x.f6.length d6,.int .i64 x.f7] 60);rw [qae] at hy;have j:=zq aA;have HX:=zq (And.intro hx hy);have D:=zq (And.intro ht af);have HN:=zq (And.intro hW (And.intro aD (And.intro hn aC)));have aE:=zq ih;have l3:x.f3.length<=100000:=kab;have l4:x.f4.length<=100000:=kab;have l5:x.f5.length<=100000:=kab;have l6:x.f6.length<=100000:=kab;have HB:=zq (qam ((W.alloc (.cells #[.int .i64 x.f0,.string x.f1,.string x.f2,.slice O x.f3.length c3,.slice U x.f4.length c4,.slice A5 x.f5.length c5,.slice A6 x.f6.length c6,.int .i64 x.f7] 60)).alloc (.cells #[.int .i64 x.f0,.string x.f1,.string x.f2,.slice B3 x.f3.length d3,.slice X x.f4.length d4,.slice Y x.f5.length d5,.slice Z x.f6.length d6,.int .i64 x.f7] 60)).heap.size ((W.alloc (.cells #[.int .i64 x.f0,.string x.f1,.string x.f2,.slice O x.f3.length c3,.slice U x.f4.length c4,.slice A5 x.f5.length c5,.slice A6 x.f6.length c6,.int .i64 x.f7] 60)).alloc (.cells #[.int .i64 x.f0,.string x.f1,.string x.f2,.slice B3 x.f3.length d3,.slice X x.f4.length d4,.slice Y x.f5.length d5,.slice Z x.f6.length d6,.int .i64 x.f7] 60)));clear aA hx hy ht af hW aD hn aC ih p q r u y z A B;go_enter func35,ntmps35;go_upto_region 3 with fail;generalize aF:((W.alloc (.cells #[.int .i64 x.f0,.string x.f1,.string x.f2,.slice O x.f3.length c3,.slice U x.f4.length c4,.slice A5 x.f5.length c5,.slice A6 x.f6.length c6,.int .i64 x.f7] 60)).alloc (.cells #[.int .i64 x.f0,.string x.f1,.string x.f2,.slice B3 x.f3.length d3,.slice X x.f4.length d4,.slice Y x.f5.length d5,.slice Z x.f6.length d6,.int .i64 x.f7] 60))=W1 at j HX HB ⊢;clear aF;go_wp2
  go_loopw [5] (fun v w=>∃ i:Nat,i<=x.f3.length/\v = .int .i64 i/\Zq (Below W1.heap.size W1 w)) (fun v _=>x.f3.length-(intOf v).toNat)
  case atStart=>exact ⟨0,Nat.zero_le _,rfl,HB⟩
  case round=>
   clear HB;obtain ⟨i,hi,rfl,HB⟩:=hrel;have J:=zab (zaq HX.o.1 HB.o) 3;have M:=zab (zaq HX.o.2 HB.o) 3;simp only [qal,qaj,qaz] at J M;by_cases d:i<x.f3.length
   ·obtain ⟨kc,kM,p,q,r,u,E⟩:=D.o.1.rows (j.o.trans (HB.o.mono j.o.size));obtain ⟨a6,a1,y,z,A,B,G⟩:=D.o.2.rows (j.o.trans (HB.o.mono j.o.size));obtain ⟨ga,rfl,p0,p1⟩:=zsw p d;obtain ⟨gb,rfl,q0,q1⟩:=zsw y d;clear p q r u E y z A B G;go_wp2
    go_quiet (fail)
    go_wp2
    go_roundw
    case rel=>exact ⟨i+1,d,by first|rfl|go_num,⟨zaa HB.o _⟩⟩
    case measure=>exact ztc d
   have I:i=x.f3.length:=Nat.le_antisymm hi (Nat.le_of_not_lt d);subst I;clear hi d;go_wp2
   go_loopw [6] (fun v w=>∃ i:Nat,i<=x.f4.length/\v = .int .i64 i/\Zq (Below W1.heap.size W1 w)) (fun v _=>x.f4.length-(intOf v).toNat)
   case atStart=>exact ⟨0,Nat.zero_le _,rfl,HB⟩
   case round=>
    clear HB;obtain ⟨i,hi,rfl,HB⟩:=hrel;have J:=zab (zaq HX.o.1 HB.o) 4;have M:=zab (zaq HX.o.2 HB.o) 4;simp only [qal,qaj,qaz] at J M;by_cases d:i<x.f4.length
    ·obtain ⟨kc,kM,p,q,r,u,E⟩:=D.o.1.rows (j.o.trans (HB.o.mono j.o.size));obtain ⟨a6,a1,y,z,A,B,G⟩:=D.o.2.rows (j.o.trans (HB.o.mono j.o.size));obtain ⟨ga,rfl,p0,p1⟩:=zsr q d;obtain ⟨gb,rfl,q0,q1⟩:=zsr z d;clear p q r u E y z A B G;go_wp2
     go_quiet (fail)
     go_wp2
     go_roundw
     case rel=>exact ⟨i+1,d,by first|rfl|go_num,⟨zaa HB.o _⟩⟩
     case measure=>exact ztc d
    have I:i=x.f4.length:=Nat.le_antisymm hi (Nat.le_of_not_lt d);subst I;clear hi d;go_wp2
    go_loopw [7] (fun v w=>∃ i:Nat,i<=x.f5.length/\v = .int .i64 i/\Zq (Below W1.heap.size W1 w)) (fun v _=>x.f5.length-(intOf v).toNat)
    case atStart=>exact ⟨0,Nat.zero_le _,rfl,HB⟩
    case round=>
     clear HB;obtain ⟨i,hi,rfl,HB⟩:=hrel;have J:=zab (zaq HX.o.1 HB.o) 5;have M:=zab (zaq HX.o.2 HB.o) 5;simp only [qal,qaj,qaz] at J M;by_cases d:i<x.f5.length
     ·obtain ⟨kc,kM,p,q,r,u,E⟩:=D.o.1.rows (j.o.trans (HB.o.mono j.o.size));obtain ⟨a6,a1,y,z,A,B,G⟩:=D.o.2.rows (j.o.trans (HB.o.mono j.o.size));obtain ⟨ga,rfl,p0⟩:=zsq r d;obtain ⟨gb,rfl,q0⟩:=zsq A d;clear p q r u E y z A B G;go_wp2
      go_quiet (fail)
      go_wp2
      go_roundw
      case rel=>exact ⟨i+1,d,by first|rfl|go_num,⟨zaa HB.o _⟩⟩
      case measure=>exact ztc d
     have I:i=x.f5.length:=Nat.le_antisymm hi (Nat.le_of_not_lt d);subst I;clear hi d;go_wp2
     go_loopw [8] (fun v w=>∃ i:Nat,i<=x.f6.length/\v = .int .i64 i/\Zq (Below W1.heap.size W1 w)) (fun v _=>x.f6.length-(intOf v).toNat)
     case atStart=>exact ⟨0,Nat.zero_le _,rfl,HB⟩
     case round=>
      clear HB;obtain ⟨i,hi,rfl,HB⟩:=hrel;have J:=zab (zaq HX.o.1 HB.o) 6;have M:=zab (zaq HX.o.2 HB.o) 6;simp only [qal,qaj,qaz] at J M;by_cases d:i<x.f6.length
      ·obtain ⟨kc,kM,p,q,r,u,E⟩:=D.o.1.rows (j.o.trans (HB.o.mono j.o.size));obtain ⟨a6,a1,y,z,A,B,G⟩:=D.o.2.rows (j.o.trans (HB.o.mono j.o.size));obtain ⟨ga,q3,q4,q5,q6,M1,rfl,⟨p0,p1,p2,p3,p4,p5,p6,p7⟩,a7⟩:=zuv u E d;obtain ⟨gb,t3,t4,t5,t6,M2,rfl,⟨m0,m1,m2,m3,m4,m5,m6,m7⟩,a8⟩:=zuv B G d;have HC:=zq (fun w (h:w.heap=wr.heap)=>aE.o x.f6[i] w _ _ _ _ _ _ (kid_le HN.o.1 HN.o.2.2.1 d) (Nat.le_of_succ_le HN.o.2.2.2) (a7.frame fun g _=>by rw [h]) (a8.frame fun g _=>by rw [h]));clear p q r u E y z A B G a7 a8;go_wp2;go_region_law (go_simp;go_at_call 35;(first|refine (HC.o (World.drew wr) rfl).mono ?_|refine (HC.o wr rfl).mono ?_);rintro e2 w2 ⟨rfl,ad⟩;have aB:Below wr.heap.size wr w2:=⟨ad.os,ad.tape,ad.output,ad.size,ad.block⟩;have aj:=zq (HB.o.trans (aB.mono HB.o.size));clear ad aB);all_goals (go_wp2;go_roundw;(case rel=>exact ⟨i+1,d,by first|rfl|go_num,aj⟩);(case measure=>exact ztc d))
      have I:i=x.f6.length:=Nat.le_antisymm hi (Nat.le_of_not_lt d);subst I;clear hi d;go_wp2;go_ret;exact ⟨rfl,j.o.trans (HB.o.mono j.o.size)⟩
end
section
theorem zgh.at_ {W:World} {b:Nat}:∀ {l:List S62} {cs:List Value} {L:List Nat},zgh W b l cs L->∀ (i:Nat) (hi:i<l.length),∃ ds M,Tree W b l[i].f2 ds M/\cs[i*11]?=some (.int .i64 l[i].f0)/\cs[i*11+1]?=some (.string l[i].f1)/\(∀ r,r<8->cs[i*11+(2+r)]?=ds[r]?)/\cs[i*11+10]?=some (.int .i64 l[i].f3)
 | [],_,_,_,i,hi=>by simp at hi
 | x::l,cs,L,⟨ds,ts,M,N,ht,hr,w,_⟩,i,hi=>by
  have e:=ht.length;subst w
  match i with
  | 0=>
   refine ⟨ds,M,ht,rfl,rfl,fun r j=>?_,?_⟩
   ·rw [qbt,qbt,qbo (by simp),qbs kbv];congr 1;simp
   rw [qbs kbv,qbo kbv];simp [e]
  | i+1=>
   obtain ⟨es,K,h1,n,o,q,u⟩:=zgh.at_ hr i (by simpa using hi);have d:∀ p,(([Value.int .i64 x.f0,Value.string x.f1]:List Value)++ds++[Value.int .i64 x.f3]++ts)[11+p]?=ts[p]?:=fun p=>by
    rw [qbo kbv];congr 1;simp [e]
   refine ⟨es,K,h1,?_,?_,fun r j=>?_,?_⟩
   ·rw [show (i+1)*11=11+i*11 by omega,d];exact n
   ·rw [show (i+1)*11+1=11+(i*11+1) by omega,d];exact o
   ·rw [show (i+1)*11+(2+r)=11+(i*11+(2+r)) by omega,d];exact q r j
   rw [show (i+1)*11+10=11+(i*11+10) by omega,d];exact u
theorem ztd {W:World} {b i c:Nat} {A:Option Addr} {l:List S62} {cells:List Value} {L:List Nat} (h:Row W b 62 11 (.slice A l.length c) l.length cells) (hf:zgh W b l cells L) (hi:i<l.length) :
  ∃ g j n o p M,A=some ⟨g,0,none⟩/\(W.cell? ⟨g,i*11,none⟩=some (.int .i64 l[i].f0)/\W.cell? ⟨g,i*11+1,none⟩=some (.string l[i].f1)/\W.cell? ⟨g,i*11+2,none⟩=some (.int .i64 l[i].f2.f0)/\W.cell? ⟨g,i*11+3,none⟩=some (.string l[i].f2.f1)/\W.cell? ⟨g,i*11+4,none⟩=some (.string l[i].f2.f2)/\W.cell? ⟨g,i*11+5,none⟩=some j/\W.cell? ⟨g,i*11+6,none⟩=some n/\W.cell? ⟨g,i*11+7,none⟩=some o/\W.cell? ⟨g,i*11+8,none⟩=some p/\W.cell? ⟨g,i*11+9,none⟩=some (.int .i64 l[i].f2.f7)/\W.cell? ⟨g,i*11+10,none⟩=some (.int .i64 l[i].f3)) /\
   Tree W b l[i].f2 [.int .i64 l[i].f2.f0,.string l[i].f2.f1,.string l[i].f2.f2,j,n,o,p,.int .i64 l[i].f2.f7] M:=by
 obtain ⟨A',D,e,-,hg⟩:=h.form;injection e with w I J;subst w;obtain ⟨g,G,rfl,q,-⟩:=hg kab;obtain ⟨ds,M,ht,x,h1,hr,y⟩:=hf.at_ i hi;obtain ⟨j,n,o,p,E,B,rfl,-⟩:=ht.open_;have d:∀ r u,r<8->[Value.int .i64 l[i].f2.f0,.string l[i].f2.f1,.string l[i].f2.f2,j,n,o,p,.int .i64 l[i].f2.f7][r]?=some u->W.cell? ⟨g,i*11+(2+r),none⟩=some u:=fun r u z hu=>h.cell q _ u ((hr r z).trans hu);exact ⟨g,j,n,o,p,M,rfl,⟨h.cell q _ _ x,h.cell q _ _ h1,d 0 _ kad rfl,d 1 _ kad rfl,d 2 _ kad rfl,d 3 _ kad rfl,d 4 _ kad rfl,d 5 _ kad rfl,d 6 _ kad rfl,d 7 _ kad rfl,h.cell q _ _ y⟩,ht⟩
theorem Tree.sl {W:World} {b:Nat} {x:S60} {f0 f7:Int} {f1 f2:ByteArray} {v3 v4 v5 j:Value} {L:List Nat} (h:Tree W b x [.int .i64 f0,.string f1,.string f2,v3,v4,v5,j,.int .i64 f7] L) :
  ∃ d n3 c3 i n4 c4 A5 r c5 A6 n6 c6,v3 = .slice d n3 c3/\v4 = .slice i n4 c4/\v5 = .slice A5 r c5/\j = .slice A6 n6 c6:=by
 obtain ⟨D,E,G,I,B,A,e,-,u,w,y,z,-⟩:=h.open_;simp only [List.cons.injEq] at e;obtain ⟨-,-,-,rfl,rfl,rfl,rfl,-⟩:=e;obtain ⟨d,c3,n,-⟩:=u.form;obtain ⟨i,c4,o,-⟩:=w.form;obtain ⟨A5,c5,p,-⟩:=y.form;obtain ⟨A6,c6,q,-⟩:=z.form;exact ⟨_,_,_,_,_,_,_,_,_,_,_,_,n,o,p,q⟩
theorem zuj:∀ {l:List S62} {i:Nat} (h:i<l.length),wt l[i].f2<=wtI l
 | a::l,0,_=>by rw [wtI];show wt a.f2<=_;omega
 | a::l,i+1,h=>by
  have:=zuj (l:=l) (i:=i) (by simpa using h);rw [wtI];exact qbf this (Nat.le_add_left _ _)
theorem same_true (W:World) (b b':Nat) (l:List S62) (v v':Value) (cells cells':List Value) (L L':List Nat) (hR:Row W b 62 11 v l.length cells) (hI:zgh W b l cells L) (a7:Row W b' 62 11 v' l.length cells') (aA:zgh W b' l cells' L') (hl:wtI l<=8001) :
  Calls prog 13 #[.agg #[v],.agg #[v']] W fun e w'=>e = .returned (.bool true)/\Below W.heap.size W w':=by
 have aF:=zmv l;obtain ⟨A,c,rfl,-,-⟩:=hR.form;obtain ⟨G,c2,rfl,-,-⟩:=a7.form;have E:=zq (And.intro hR (And.intro hI (And.intro a7 aA)));have J:=zq (((qam W.heap.size W).alloc (qad _) (.cells #[.slice A l.length c] 36)).alloc (by simp) (.cells #[.slice G l.length c2] 36));have HX:=zq (zaf (qac W (.cells #[.slice A l.length c] 36)) (.cells #[.slice G l.length c2] 36));have hy:=qac (W.alloc (.cells #[.slice A l.length c] 36)) (.cells #[.slice G l.length c2] 36);rw [qae] at hy;have HY:=zq hy;have HB:=zq (qam ((W.alloc (.cells #[.slice A l.length c] 36)).alloc (.cells #[.slice G l.length c2] 36)).heap.size ((W.alloc (.cells #[.slice A l.length c] 36)).alloc (.cells #[.slice G l.length c2] 36)));have l1:l.length<=100000:=kab;have HW:=zq hl;clear hy hR hI a7 aA aF hl;go_enter func13,ntmps13;go_upto_region 3 with fail;generalize aD:((W.alloc (.cells #[.slice A l.length c] 36)).alloc (.cells #[.slice G l.length c2] 36))=W1 at J HX HY HB ⊢;clear aD;go_wp2
 go_loopw [5] (fun v w=>∃ i:Nat,i<=l.length/\v = .int .i64 i/\Zq (Below W1.heap.size W1 w)) (fun v _=>l.length-(intOf v).toNat)
 case atStart=>exact ⟨0,Nat.zero_le _,rfl,HB⟩
 case round=>
  clear HB;obtain ⟨i,hi,rfl,HB⟩:=hrel;have xa:=zab (zaq HX.o HB.o) 0;have xb:=zab (zaq HY.o HB.o) 0;simp only [qal,qaj,qaz] at xa xb;by_cases I:i<l.length
  ·have M:=J.o.trans (HB.o.mono J.o.size);obtain ⟨ga,q3,q4,q5,q6,M1,rfl,⟨p0,p1,p2,p3,p4,p5,p6,p7,p8,p9,aG⟩,Z⟩:=ztd (E.o.1.frame fun g hg=>M.block g (E.o.1.blk hg).2.1) (E.o.2.1.frame fun g hg=>M.block g (E.o.2.1.lt g hg).2) I;obtain ⟨gb,t3,t4,t5,t6,M2,rfl,⟨m0,m1,m2,m3,m4,m5,m6,m7,m8,m9,m10⟩,ad⟩:=ztd (E.o.2.2.1.frame fun g hg=>M.block g (E.o.2.2.1.blk hg).2.1) (E.o.2.2.2.frame fun g hg=>M.block g (E.o.2.2.2.lt g hg).2) I;obtain ⟨j,p,x,n,q,y,A5,r,z,A6,u,d,rfl,rfl,rfl,rfl⟩:=Z.sl;obtain ⟨O,i3,x3,U,i4,x4,X,i5,x5,Y,i6,x6,rfl,rfl,rfl,rfl⟩:=ad.sl;have a6:=((qam wr.heap.size wr).alloc (qad _) (.cells #[.int .i64 l[i].f0,.string l[i].f1,.int .i64 l[i].f2.f0,.string l[i].f2.f1,.string l[i].f2.f2,.slice j p x,.slice n q y,.slice A5 r z,.slice A6 u d,.int .i64 l[i].f2.f7,.int .i64 l[i].f3] 62)).alloc (by simp) (.cells #[.int .i64 l[i].f0,.string l[i].f1,.int .i64 l[i].f2.f0,.string l[i].f2.f1,.string l[i].f2.f2,.slice O i3 x3,.slice U i4 x4,.slice X i5 x5,.slice Y i6 x6,.int .i64 l[i].f2.f7,.int .i64 l[i].f3] 62);have aH:=zag ((qam wr.heap.size wr).alloc (qad _) (.cells #[.int .i64 l[i].f0,.string l[i].f1,.int .i64 l[i].f2.f0,.string l[i].f2.f1,.string l[i].f2.f2,.slice j p x,.slice n q y,.slice A5 r z,.slice A6 u d,.int .i64 l[i].f2.f7,.int .i64 l[i].f3] 62)) xb;have n0:=zag ((qam wr.heap.size wr).alloc (qad _) (.cells #[.int .i64 l[i].f0,.string l[i].f1,.int .i64 l[i].f2.f0,.string l[i].f2.f1,.string l[i].f2.f2,.slice j p x,.slice n q y,.slice A5 r z,.slice A6 u d,.int .i64 l[i].f2.f7,.int .i64 l[i].f3] 62)) m0;have n1:=zag ((qam wr.heap.size wr).alloc (qad _) (.cells #[.int .i64 l[i].f0,.string l[i].f1,.int .i64 l[i].f2.f0,.string l[i].f2.f1,.string l[i].f2.f2,.slice j p x,.slice n q y,.slice A5 r z,.slice A6 u d,.int .i64 l[i].f2.f7,.int .i64 l[i].f3] 62)) m1;have n2:=zag ((qam wr.heap.size wr).alloc (qad _) (.cells #[.int .i64 l[i].f0,.string l[i].f1,.int .i64 l[i].f2.f0,.string l[i].f2.f1,.string l[i].f2.f2,.slice j p x,.slice n q y,.slice A5 r z,.slice A6 u d,.int .i64 l[i].f2.f7,.int .i64 l[i].f3] 62)) m2;have n3:=zag ((qam wr.heap.size wr).alloc (qad _) (.cells #[.int .i64 l[i].f0,.string l[i].f1,.int .i64 l[i].f2.f0,.string l[i].f2.f1,.string l[i].f2.f2,.slice j p x,.slice n q y,.slice A5 r z,.slice A6 u d,.int .i64 l[i].f2.f7,.int .i64 l[i].f3] 62)) m3;have n4:=zag ((qam wr.heap.size wr).alloc (qad _) (.cells #[.int .i64 l[i].f0,.string l[i].f1,.int .i64 l[i].f2.f0,.string l[i].f2.f1,.string l[i].f2.f2,.slice j p x,.slice n q y,.slice A5 r z,.slice A6 u d,.int .i64 l[i].f2.f7,.int .i64 l[i].f3] 62)) m4;have n5:=zag ((qam wr.heap.size wr).alloc (qad _) (.cells #[.int .i64 l[i].f0,.string l[i].f1,.int .i64 l[i].f2.f0,.string l[i].f2.f1,.string l[i].f2.f2,.slice j p x,.slice n q y,.slice A5 r z,.slice A6 u d,.int .i64 l[i].f2.f7,.int .i64 l[i].f3] 62)) m5;have n6:=zag ((qam wr.heap.size wr).alloc (qad _) (.cells #[.int .i64 l[i].f0,.string l[i].f1,.int .i64 l[i].f2.f0,.string l[i].f2.f1,.string l[i].f2.f2,.slice j p x,.slice n q y,.slice A5 r z,.slice A6 u d,.int .i64 l[i].f2.f7,.int .i64 l[i].f3] 62)) m6;have n7:=zag ((qam wr.heap.size wr).alloc (qad _) (.cells #[.int .i64 l[i].f0,.string l[i].f1,.int .i64 l[i].f2.f0,.string l[i].f2.f1,.string l[i].f2.f2,.slice j p x,.slice n q y,.slice A5 r z,.slice A6 u d,.int .i64 l[i].f2.f7,.int .i64 l[i].f3] 62)) m7;have n8:=zag ((qam wr.heap.size wr).alloc (qad _) (.cells #[.int .i64 l[i].f0,.string l[i].f1,.int .i64 l[i].f2.f0,.string l[i].f2.f1,.string l[i].f2.f2,.slice j p x,.slice n q y,.slice A5 r z,.slice A6 u d,.int .i64 l[i].f2.f7,.int .i64 l[i].f3] 62)) m8;have n9:=zag ((qam wr.heap.size wr).alloc (qad _) (.cells #[.int .i64 l[i].f0,.string l[i].f1,.int .i64 l[i].f2.f0,.string l[i].f2.f1,.string l[i].f2.f2,.slice j p x,.slice n q y,.slice A5 r z,.slice A6 u d,.int .i64 l[i].f2.f7,.int .i64 l[i].f3] 62)) m9;have n10:=zag ((qam wr.heap.size wr).alloc (qad _) (.cells #[.int .i64 l[i].f0,.string l[i].f1,.int .i64 l[i].f2.f0,.string l[i].f2.f1,.string l[i].f2.f2,.slice j p x,.slice n q y,.slice A5 r z,.slice A6 u d,.int .i64 l[i].f2.f7,.int .i64 l[i].f3] 62)) m10;have D:=zaf (qac wr (.cells #[.int .i64 l[i].f0,.string l[i].f1,.int .i64 l[i].f2.f0,.string l[i].f2.f1,.string l[i].f2.f2,.slice j p x,.slice n q y,.slice A5 r z,.slice A6 u d,.int .i64 l[i].f2.f7,.int .i64 l[i].f3] 62)) (.cells #[.int .i64 l[i].f0,.string l[i].f1,.int .i64 l[i].f2.f0,.string l[i].f2.f1,.string l[i].f2.f2,.slice O i3 x3,.slice U i4 x4,.slice X i5 x5,.slice Y i6 x6,.int .i64 l[i].f2.f7,.int .i64 l[i].f3] 62);have B:=qac (wr.alloc (.cells #[.int .i64 l[i].f0,.string l[i].f1,.int .i64 l[i].f2.f0,.string l[i].f2.f1,.string l[i].f2.f2,.slice j p x,.slice n q y,.slice A5 r z,.slice A6 u d,.int .i64 l[i].f2.f7,.int .i64 l[i].f3] 62)) (.cells #[.int .i64 l[i].f0,.string l[i].f1,.int .i64 l[i].f2.f0,.string l[i].f2.f1,.string l[i].f2.f2,.slice O i3 x3,.slice U i4 x4,.slice X i5 x5,.slice Y i6 x6,.int .i64 l[i].f2.f7,.int .i64 l[i].f3] 62);rw [qae] at B;have H6:=zq D;have H7:=zq B;have a8:=zq a6;have HC:=zq (conds_true 8001 l[i].f2 ((wr.alloc (.cells #[.int .i64 l[i].f0,.string l[i].f1,.int .i64 l[i].f2.f0,.string l[i].f2.f1,.string l[i].f2.f2,.slice j p x,.slice n q y,.slice A5 r z,.slice A6 u d,.int .i64 l[i].f2.f7,.int .i64 l[i].f3] 62)).alloc (.cells #[.int .i64 l[i].f0,.string l[i].f1,.int .i64 l[i].f2.f0,.string l[i].f2.f1,.string l[i].f2.f2,.slice O i3 x3,.slice U i4 x4,.slice X i5 x5,.slice Y i6 x6,.int .i64 l[i].f2.f7,.int .i64 l[i].f3] 62)) _ _ _ _ _ _ (qbf (zuj I) HW.o) kad (Z.frame fun g hg=>a6.block g (Z.lt g hg).2) (ad.frame fun g hg=>a6.block g (ad.lt g hg).2));have y2:=zab D 2;have y3:=zab D 3;have y4:=zab D 4;have y5:=zab D 5;have y6:=zab D 6;have y7:=zab D 7;have y8:=zab D 8;have y9:=zab D 9;have z2:=zab B 2;have z3:=zab B 3;have z4:=zab B 4;have z5:=zab B 5;have z6:=zab B 6;have z7:=zab B 7;have z8:=zab B 8;have z9:=zab B 9;simp only [qal,qaj,qaz] at y2 y3 y4 y5 y6 y7 y8 y9 z2 z3 z4 z5 z6 z7 z8 z9;clear Z ad D B a6 M;go_wp2_with (go_at_call 35;refine HC.o.mono ?_;rintro e2 w2 ⟨rfl,af⟩;have aj:=zq (HB.o.trans ((a8.o.trans (af.mono a8.o.size)).mono HB.o.size));have d:=(af.block _ (zam H6.o)).trans H6.o;have k7:=(af.block _ (zam H7.o)).trans H7.o;have a0:=zab d 0;have a1:=zab d 1;have aB:=zab d 10;have b0:=zab k7 0;have b1:=zab k7 1;have aC:=zab k7 10;simp only [qal,qaj,qaz] at a0 a1 aB b0 b1 aC;clear af d k7)
   go_roundw
   case rel=>exact ⟨i+1,I,by first|rfl|go_num,aj⟩
   case measure=>exact ztc I
  have aE:i=l.length:=Nat.le_antisymm hi (Nat.le_of_not_lt I);subst aE;go_wp2;go_ret;exact ⟨rfl,J.o.trans (HB.o.mono J.o.size)⟩
end
section
structure RS where
 i:Nat
 e:Int
 p:Int
structure RSt (W:World) (g T c:Nat) (toks:List Tok) (s:RS):Prop where
 src:W.heap[g]?=some (.cells #[.slice (some ⟨T,0,none⟩) toks.length c,.int .i64 s.i,.int .i64 s.e,.int .i64 s.p] 79 (0,0))
 tok:Toks W T toks
 many:toks.length<=8001
 here:s.i<toks.length
section
variable {W w1:World} {g T c:Nat} {toks:List Tok} {s:RS}
theorem RSt.blk (h:RSt W g T c toks s) (hs:w1.heap[g]?=W.heap[g]?) (ht:w1.heap[T]?=W.heap[T]?):RSt w1 g T c toks s:=
 ⟨hs.trans h.src,by obtain ⟨cs,h1,b⟩:=h.tok;exact ⟨cs,ht.trans h1,b⟩,h.many,h.here⟩
theorem RSt.lts (h:RSt W g T c toks s):g<W.heap.size/\T<W.heap.size/\g≠T:=by
 obtain ⟨cs,h1,_⟩:=h.tok;refine ⟨zam h.src,zam h1,?_⟩;rintro rfl;have:=h.src;rw [h1] at this;injection this with this;injection this with _ b;exact absurd b kad
theorem RSt.fr {S:Nat->Prop} (h:RSt W g T c toks s) (hf:Fr W w1 S) (hg:¬S g) (b:¬S T):RSt w1 g T c toks s:=
 h.blk (hf.block g h.lts.1 hg) (hf.block T h.lts.2.1 b)
theorem RSt.alloc (h:RSt W g T c toks s) (o:Obj):RSt (W.alloc o) g T c toks s:=
 h.blk (qbj W o g h.lts.1) (qbj W o T h.lts.2.1)
theorem RSt.below (h:RSt W g T c toks s) (b:Below W.heap.size W w1):RSt w1 g T c toks s:=
 h.blk (b.block g h.lts.1) (b.block T h.lts.2.1)
theorem RSt.drew (h:RSt W g T c toks s):RSt W.drew g T c toks s:=⟨h.src,h.tok,h.many,h.here⟩
theorem RSt.undrew (h:RSt W.drew g T c toks s):RSt W g T c toks s:=⟨h.src,h.tok,h.many,h.here⟩
theorem RSt.far (h:RSt W g T c toks s) {p:Addr} (h1:g≠p.block) (b:T≠p.block) (v:Value):RSt (W.setCell p v) g T c toks s:=
 h.blk (qbk W p v g h1) (qbk W p v T b)
theorem RSt.setI (h:RSt W g T c toks s) {j:Nat} (i:j<toks.length) {z:Int} (n:z=(j:Int)):RSt (W.setCell ⟨g,1,none⟩ (.int .i64 z)) g T c toks ⟨j,s.e,s.p⟩:=by
 subst n;obtain ⟨cs,b,d⟩:=h.tok;exact ⟨zan h.src 1 _ rfl,⟨cs,zat b h.lts.2.2.symm _,d⟩,h.many,i⟩
theorem RSt.setE (h:RSt W g T c toks s) (e p:Int):RSt ((W.setCell ⟨g,2,none⟩ (.int .i64 e)).setCell ⟨g,3,none⟩ (.int .i64 p)) g T c toks ⟨s.i,e,p⟩:=by
 obtain ⟨cs,d,j⟩:=h.tok;have b:_=some (Obj.cells #[.slice (some ⟨T,0,none⟩) toks.length c,.int .i64 s.i,.int .i64 e,.int .i64 s.p] 79 (0,0)):=zan h.src 2 (.int .i64 e) rfl;exact ⟨zan b 3 _ rfl,⟨cs,zat (zat d h.lts.2.2.symm _) h.lts.2.2.symm _,j⟩,h.many,h.here⟩
theorem RSt.facts (h:RSt W g T c toks s):W.cell? ⟨g,0,none⟩=some (.slice (some ⟨T,0,none⟩) toks.length c)/\W.cell? ⟨g,1,none⟩=some (.int .i64 s.i)/\W.cell? ⟨g,2,none⟩=some (.int .i64 s.e)/\W.cell? ⟨g,3,none⟩=some (.int .i64 s.p)/\W.frozen? ⟨g,1,none⟩=false/\W.frozen? ⟨g,2,none⟩=false/\W.frozen? ⟨g,3,none⟩=false:=
 ⟨zab h.src 0,zab h.src 1,zab h.src 2,zab h.src 3,zac h.src 1,zac h.src 2,zac h.src 3⟩
end
section
variable (toks:List Tok)
def zcb (e p:Int) (s:RS):RS:=if s.e=0 then ⟨s.i,e,p⟩ else s
def zbu (s:RS):RS:=zcb 90 (tk toks s.i).place s
def isR (w:ByteArray) (s:RS):Bool:=decide (s.e=0)&&isT (tk toks s.i) w
def mayR (w:ByteArray) (s:RS):RS:=if isR toks w s=true then ⟨s.i+1,s.e,s.p⟩ else s
def zdm (w:ByteArray) (s:RS):RS:=if isR toks w s=true then ⟨s.i+1,s.e,s.p⟩ else zbu toks s
def zai (k:Int) (s:RS):Tok:=if s.e≠0\/(tk toks s.i).kind≠k then ⟨0,⟨#[]⟩,0,0,0,0⟩ else tk toks s.i
def zba (k:Int) (s:RS):RS:=if s.e≠0\/(tk toks s.i).kind≠k then zbu toks s else ⟨s.i+1,s.e,s.p⟩
end
theorem zdl (W:World) (g T c:Nat) (toks:List Tok) (s:RS) (e p:Int) (h:RSt W g T c toks s) :
  Calls prog 33 #[.pointer (some ⟨g,0,none⟩),.int .i64 e,.int .i64 p] W fun e' W'=>e' = .returned (.tuple #[])/\RSt W' g T c toks (zcb e p s)/\Fr W W' (·=g):=by
 obtain ⟨n,q,j,r,u,z2,z3⟩:=h.facts;by_cases b:s.e=0
 ·have d:=zq (show RSt _ g T c toks (zcb e p s) from (by rw [show zcb e p s=⟨s.i,e,p⟩ from if_pos b];exact h.setE e p));rw [b] at j;clear b h;go_enter func33,ntmps33;go_wp2;first|go_end0|(refine qaf (qba rfl _ _ _) rfl ?_)
  exact ⟨rfl,d.o,Fr.setCell (S:=(·=g)) (Fr.setCell (S:=(·=g)) (Fr.refl W _) (p:=⟨g,2,none⟩) (.inl rfl) _) (p:=⟨g,3,none⟩) (.inl rfl) _⟩
 have d:=zq (show RSt _ g T c toks (zcb e p s) from (by rw [show zcb e p s=s from if_neg b];exact h));clear h;go_enter func33,ntmps33;go_wp2;first|go_end0|(refine qaf (qba rfl _ _ _) rfl ?_)
 exact ⟨rfl,d.o,Fr.refl _ _⟩
theorem zdn (W:World) (g T c:Nat) (toks:List Tok) (s:RS) (h:RSt W g T c toks s) :
  Calls prog 56 #[.pointer (some ⟨g,0,none⟩)] W fun e' W'=>e' = .returned (.tuple #[])/\RSt W' g T c toks (zbu toks s)/\Fr W W' (·=g):=by
 obtain ⟨r,u,w,x,y,z2,z3⟩:=h.facts;have p:=h.here;have q:=h.many;obtain ⟨d0,d1,d2,d3,d4,d5⟩:=h.tok.cell (zdg toks h.here);have d:=zq (fun W' (e:RSt W' g T c toks s)=>zdl W' g T c toks s 90 (tk toks s.i).place e);have b:=zq h;clear h;go_enter func56,ntmps56;go_wp2;go_region_law (go_simp;go_at_call 33;refine (d.o _ (by first|exact b.o|exact b.o.drew)).mono ?_;rintro n w1 ⟨rfl,j,hF⟩);all_goals (first|go_end0|(refine qaf (qba rfl _ _ _) rfl ?_))
 all_goals exact ⟨rfl,j,hF.undrew⟩
theorem RSt.look {W:World} {g T c:Nat} {toks:List Tok} {s:RS} (h:RSt W g T c toks s) :
  W.cell? ⟨g,0,none⟩=some (.slice (some ⟨T,0,none⟩) toks.length c)/\W.cell? ⟨g,1,none⟩=some (.int .i64 s.i)/\W.cell? ⟨g,2,none⟩=some (.int .i64 s.e) /\
  W.cell? ⟨T,s.i*6,none⟩=some (.int .i64 (tk toks s.i).kind)/\W.cell? ⟨T,s.i*6+1,none⟩=some (.string (tk toks s.i).text)/\W.cell? ⟨T,s.i*6+2,none⟩=some (.int .i64 (tk toks s.i).num)/\W.cell? ⟨T,s.i*6+3,none⟩=some (.int .i64 (tk toks s.i).pa)/\W.cell? ⟨T,s.i*6+4,none⟩=some (.int .i64 (tk toks s.i).pb)/\W.cell? ⟨T,s.i*6+5,none⟩=some (.int .i64 (tk toks s.i).place):=
 ⟨h.facts.1,h.facts.2.1,h.facts.2.2.1,h.tok.cell (zdg toks h.here)⟩
theorem zbs (W:World) (g T c:Nat) (toks:List Tok) (s:RS) (w:ByteArray) (h:RSt W g T c toks s) :
  Calls prog 32 #[.pointer (some ⟨g,0,none⟩),.string w] W fun e' W'=>e' = .returned (.bool (isR toks w s))/\Below W.heap.size W W':=by
 have b:=fun o=>(h.alloc o).look;have u:=fun o=>(b o).1;have x:=fun o=>(b o).2.1;have y:=fun o=>(b o).2.2.1;have d0:=fun o=>(b o).2.2.2.1;have d1:=fun o=>(b o).2.2.2.2.1;have d2:=fun o=>(b o).2.2.2.2.2.1;have d3:=fun o=>(b o).2.2.2.2.2.2.1;have d4:=fun o=>(b o).2.2.2.2.2.2.2.1;have d5:=fun o=>(b o).2.2.2.2.2.2.2.2;obtain ⟨u0,u1,u2,d,e,i,j,n,p⟩:=h.look;have q:=h.here;have r:=h.many;clear h b;go_enter func32,ntmps32;go_wp2;go_region;all_goals (try go_wp2)
 all_goals go_ret
 all_goals refine ⟨?_,((qam _ _).alloc (qad _) _).drew⟩
 all_goals simp [isR,isT, *]
theorem zqw {toks:List Tok} {w:ByteArray} {s:RS} (h:isR toks w s=true):(tk toks s.i).kind≠8/\s.e=0:=by
 unfold isR at h;rw [qbd,decide_eq_true_eq] at h;exact ⟨zcc h.2,h.1⟩
section
variable (g T c:Nat) (toks:List Tok) (aa:∀ k,k<toks.length->(tk toks k).kind≠8->k+1<toks.length)
include aa
theorem zcs (W:World) (s:RS) (w:ByteArray) (h:RSt W g T c toks s) :
  Calls prog 88 #[.pointer (some ⟨g,0,none⟩),.string w] W fun e' W'=>e' = .returned (.bool (isR toks w s))/\RSt W' g T c toks (mayR toks w s)/\Fr W W' (·=g):=by
 have d:=zq (zbs W g T c toks s w h);have j:=zq h;have x:=h.many;have u:=h.here;clear h;unfold mayR;cases b:isR toks w s with
 | false=>
  rw [b] at d;clear b;simp only [qbq,if_false];go_enter func88,ntmps88;go_wp2_with (go_at_call 32;refine d.o.mono ?_;rintro e' w' ⟨rfl,b⟩);go_ret;exact ⟨rfl,j.o.below b,Fr.of_below b⟩
 | true=>
  have r:=zq (aa s.i u (zqw b).1);rw [b] at d;clear b;simp only [if_true];go_enter func88,ntmps88;go_wp2_with (go_at_call 32;refine d.o.mono ?_;rintro e' w' ⟨rfl,b⟩;have e:=j.o.below b;obtain ⟨y,z,A,B,D,z2,z3⟩:=e.facts;have q:=zq e;have n:=zq (Fr.of_below (S:=(·=g)) b);clear e b);go_ret;exact ⟨rfl,q.o.setI r.o kab,Fr.setCell (S:=(·=g)) n.o (p:=⟨g,1,none⟩) (.inl rfl) _⟩
theorem zbq (W:World) (s:RS) (w:ByteArray) (h:RSt W g T c toks s) :
  Calls prog 58 #[.pointer (some ⟨g,0,none⟩),.string w] W fun e' W'=>e' = .returned (.tuple #[])/\RSt W' g T c toks (zdm toks w s)/\Fr W W' (·=g):=by
 have b:=zq (zcs g T c toks aa W s w h);have i:=zq (fun W' j=>zdn W' g T c toks s j);clear h;unfold zdm;unfold mayR at b;cases d:isR toks w s with
 | false=>
  rw [d] at b;clear d;simp only [qbq,if_false] at b ⊢;go_enter func58,ntmps58;go_wp2_with (first
   | (go_at_call 88;refine b.o.mono ?_;rintro e' w' ⟨rfl,e,hF⟩)
   | (go_at_call 56;refine (i.o _ e).mono ?_;rintro q r ⟨rfl,p,n⟩))
  first|go_end0|(refine qaf (qba rfl _ _ _) rfl ?_)
  exact ⟨rfl,p,hF.trans n⟩
 | true=>
  rw [d] at b;clear d;simp only [if_true] at b ⊢;go_enter func58,ntmps58;go_wp2_with (go_at_call 88;refine b.o.mono ?_;rintro e' w' ⟨rfl,e,hF⟩);first|go_end0|(refine qaf (qba rfl _ _ _) rfl ?_)
  exact ⟨rfl,e,hF⟩
end
abbrev tokQ (t:Tok):Obj := .cells #[.int .i64 t.kind,.string t.text,.int .i64 t.num,.int .i64 t.pa,.int .i64 t.pb,.int .i64 t.place] 49
abbrev zqi:Array Value:=#[.int .i64 0,.string ⟨#[]⟩,.int .i64 0,.int .i64 0,.int .i64 0,.int .i64 0]
theorem zhz (w:World) (g:Nat):w.drew.heap[g]?=w.heap[g]?:=rfl
abbrev store6 (W:World) (m:Nat) (v0 v1 v2 v3 v4 v5:Value):World:=(((((W.setCell ⟨m,0,none⟩ v0).setCell ⟨m,1,none⟩ v1).setCell ⟨m,2,none⟩ v2).setCell ⟨m,3,none⟩ v3).setCell ⟨m,4,none⟩ v4).setCell ⟨m,5,none⟩ v5
theorem zgj (W:World) (m:Nat) (v0 v1 v2 v3 v4 v5:Value):Fr W (store6 W m v0 v1 v2 v3 v4 v5) (·=m):=by
 have b:=(Fr.refl W (·=m)).setCell (p:=⟨m,0,none⟩) (.inl rfl) v0;have d:=b.setCell (p:=⟨m,1,none⟩) (.inl rfl) v1;have e:=d.setCell (p:=⟨m,2,none⟩) (.inl rfl) v2;have i:=e.setCell (p:=⟨m,3,none⟩) (.inl rfl) v3;have j:=i.setCell (p:=⟨m,4,none⟩) (.inl rfl) v4;exact j.setCell (p:=⟨m,5,none⟩) (.inl rfl) v5
theorem zih {w:World} {m:Nat} (h:w.heap[m]?=some (.cells zqi 49 (0,0))):w.cell? ⟨m,0,none⟩=some (.int .i64 0)/\w.cell? ⟨m,1,none⟩=some (.string ⟨#[]⟩)/\w.cell? ⟨m,2,none⟩=some (.int .i64 0)/\w.cell? ⟨m,3,none⟩=some (.int .i64 0)/\w.cell? ⟨m,4,none⟩=some (.int .i64 0)/\w.cell? ⟨m,5,none⟩=some (.int .i64 0) /\
  w.frozen? ⟨m,0,none⟩=false/\w.frozen? ⟨m,1,none⟩=false/\w.frozen? ⟨m,2,none⟩=false/\w.frozen? ⟨m,3,none⟩=false/\w.frozen? ⟨m,4,none⟩=false/\w.frozen? ⟨m,5,none⟩=false:=⟨zab h 0,zab h 1,zab h 2,zab h 3,zab h 4,zab h 5,zac h 0,zac h 1,zac h 2,zac h 3,zac h 4,zac h 5⟩
theorem zdq (W:World) (g T c:Nat) (toks:List Tok) (aa:∀ k,k<toks.length->(tk toks k).kind≠8->k+1<toks.length) (s:RS) (k:Int) (Z:k≠8) (h:RSt W g T c toks s) :
  Calls prog 57 #[.pointer (some ⟨g,0,none⟩),.int .i64 k] W fun e' W'=>e' = .returned (zai toks k s).val/\RSt W' g T c toks (zba toks k s)/\Fr W W' (·=g):=by
 have d:=fun o b=>((h.alloc o).alloc b).look;have s0:=fun o b=>(d o b).1;have s1:=fun o b=>(d o b).2.1;have s2:=fun o b=>(d o b).2.2.1;have d0:=fun o b=>(d o b).2.2.2.1;have d1:=fun o b=>(d o b).2.2.2.2.1;have d2:=fun o b=>(d o b).2.2.2.2.2.1;have d3:=fun o b=>(d o b).2.2.2.2.2.2.1;have d4:=fun o b=>(d o b).2.2.2.2.2.2.2.1;have d5:=fun o b=>(d o b).2.2.2.2.2.2.2.2;have j:=fun o=>(h.alloc o).look;have t0:=fun o=>(j o).1;have t1:=fun o=>(j o).2.1;have t2:=fun o=>(j o).2.2.1;have e0:=fun o=>(j o).2.2.2.1;have x:=fun o=>(j o).2.2.2.2.1;have L:=fun o=>(j o).2.2.2.2.2.1;have M:=fun o=>(j o).2.2.2.2.2.2.1;have e4:=fun o=>(j o).2.2.2.2.2.2.2.1;have e5:=fun o=>(j o).2.2.2.2.2.2.2.2;have ad:=h.here;have a1:=h.many;have J:=zq (fun W' X=>zdn W' g T c toks s X);have O:=zq h;have U:=zq aa;have u:g≠W.heap.size:=by have:=h.lts.1;omega
 have af:g≠W.heap.size+1:=by have:=h.lts.1;omega
 have G:T≠W.heap.size:=by have:=h.lts.2.1;omega
 have a6:=fun o b=>((h.alloc o).alloc b).facts.2.2.2.2.1;have E:=zq (qac W (.cells zqi 49));have A:=fun o=>zq (((Fr.refl W (·=g)).alloc (.cells zqi 49)).alloc o);have I:=zq ((h.alloc (.cells zqi 49)).alloc (tokQ (tk toks s.i))).drew;clear h d j aa;unfold zai zba;by_cases n:s.e=0
 ·simp only [n] at t2 s2;by_cases hk:(tk toks s.i).kind=k
  ·have Y:=zq (U.o s.i ad (by rw [hk];exact Z));rw [if_neg (by rw [n,hk];simp),if_neg (by rw [n,hk];simp)];subst hk;clear n;go_enter func57,ntmps57;go_wp2;go_region;(all_goals (try go_wp2));all_goals
    have x:=((O.o.alloc (.cells zqi 49)).alloc (tokQ (tk toks s.i))).setI Y.o (z:=(s.i:Int)+1) kab;have L:=Fr.setCell (S:=(·=g)) (A (tokQ (tk toks s.i))).o (p:=⟨g,1,none⟩) (.inl rfl) (.int .i64 ((s.i:Int)+1));have M:=zat (p:=⟨g,1,none⟩) (zaf E.o (tokQ (tk toks s.i))) (fun e=>u e.symm) (.int .i64 ((s.i:Int)+1));refine qaf (qat rfl _ _ W.heap.size 49 #[.int .i64 (tk toks s.i).kind,.string (tk toks s.i).text,.int .i64 (tk toks s.i).num,.int .i64 (tk toks s.i).pa,.int .i64 (tk toks s.i).pb,.int .i64 (tk toks s.i).place] (0,0) _ rfl ((zhz _ _).trans (zht M _ _ _ _ _ _)) underlying49 rfl kae) rfl ?_;exact ⟨rfl,(x.fr (zgj _ W.heap.size _ _ _ _ _ _) u G).drew,(L.then_ (zgj _ W.heap.size _ _ _ _ _ _) (fun k hk => .inr kab)).drew⟩
  rw [if_pos (.inr hk),if_pos (.inr hk)];clear n;go_enter func57,ntmps57;go_wp2;go_region;all_goals go_wp2_with (go_at_call 56;refine (J.o _ I.o).mono ?_;rintro x w1 ⟨rfl,w,hF⟩;have q:=hF.undrew;have r:=q.blk (zaf E.o (tokQ (tk toks s.i))) (fun e=>u e.symm);obtain ⟨y0,y1,y2,y3,y4,y5,x0,x1,x2,x3,x4,x5⟩:=zih r;have D:=zq w;have y:=zq ((A (tokQ (tk toks s.i))).o.trans q);have B:=zq r;clear w hF q r)
  all_goals
   refine qaf (qat rfl _ _ W.heap.size 49 zqi (0,0) _ rfl (zht B.o _ _ _ _ _ _) underlying49 rfl kae) rfl ?_;exact ⟨rfl,(D.o.fr (zgj _ W.heap.size _ _ _ _ _ _) u G),(y.o.then_ (zgj _ W.heap.size _ _ _ _ _ _) (fun k hk => .inr kab))⟩
 rw [if_pos (.inl n),if_pos (.inl n)];go_enter func57,ntmps57;go_wp2;go_region;all_goals go_wp2_with (go_at_call 56;refine (J.o _ I.o).mono ?_;rintro x w1 ⟨rfl,w,hF⟩;have q:=hF.undrew;have r:=q.blk (zaf E.o (tokQ (tk toks s.i))) (fun e=>u e.symm);obtain ⟨y0,y1,y2,y3,y4,y5,x0,x1,x2,x3,x4,x5⟩:=zih r;have D:=zq w;have y:=zq ((A (tokQ (tk toks s.i))).o.trans q);have B:=zq r;clear w hF q r)
 all_goals
  refine qaf (qat rfl _ _ W.heap.size 49 zqi (0,0) _ rfl (zht B.o _ _ _ _ _ _) underlying49 rfl kae) rfl ?_;exact ⟨rfl,(D.o.fr (zgj _ W.heap.size _ _ _ _ _ _) u G),(y.o.then_ (zgj _ W.heap.size _ _ _ _ _ _) (fun k hk => .inr kab))⟩
end
section
theorem ops_any (l:List UInt8):([sNot,zjq,zge,zff,zfa,zcj,zif,zei,sHas].any fun w=>l==w.toList) =
  (l==[110,111,116]||(l==[116,114,117,101]||(l==[102,97,108,115,101]||(l==[97,100,100,114]||(l==[112,111,114,116]||(l==[109,101,116,104,111,100]||(l==[112,97,116,104]||(l==[104,101,97,100,101,114]||l==[104,97,115])))))))):=by
 simp only [List.any_cons,List.any_nil,Bool.or_false,show sNot.toList=[110,111,116] from by kernel_rfl,show zjq.toList=[116,114,117,101] from by kernel_rfl,show zge.toList=[102,97,108,115,101] from by kernel_rfl,show zff.toList=[97,100,100,114] from by kernel_rfl,show zfa.toList=[112,111,114,116] from by kernel_rfl,show zcj.toList=[109,101,116,104,111,100] from by kernel_rfl,show zif.toList=[112,97,116,104] from by kernel_rfl,show zei.toList=[104,101,97,100,101,114] from by kernel_rfl,show sHas.toList=[104,97,115] from by kernel_rfl]
theorem zjm (W:World) (g T c:Nat) (toks:List Tok) (s:RS) (h:RSt W g T c toks s) :
  Calls prog 90 #[.pointer (some ⟨g,0,none⟩)] W fun e' W'=>e' = .returned (.bool (zdh (tk toks s.i)))/\Below W.heap.size W W':=by
 have d:=fun o=>(h.alloc o).look;have B:=fun o=>(d o).1;have D:=fun o=>(d o).2.1;have d0:=fun o=>(d o).2.2.2.1;have d1:=fun o=>(d o).2.2.2.2.1;have d2:=fun o=>(d o).2.2.2.2.2.1;have d3:=fun o=>(d o).2.2.2.2.2.2.1;have d4:=fun o=>(d o).2.2.2.2.2.2.2.1;have d5:=fun o=>(d o).2.2.2.2.2.2.2.2;obtain ⟨u0,u1,u2,p,q,r,u,x,y⟩:=h.look;have z:=h.here;have A:=h.many;clear h d;by_cases e:(tk toks s.i).kind=2
 ·rw [show zdh (tk toks s.i)=true by unfold zdh;rw [if_pos e]];go_enter func90,ntmps90;go_wp2;go_region;all_goals (try go_wp2)
  all_goals go_ret
  all_goals exact ⟨rfl,((qam _ _).alloc (qad _) _).drew⟩
 by_cases j:(tk toks s.i).kind=7
 ·rw [show zdh (tk toks s.i)=((tk toks s.i).text.toList==[40]) by unfold zdh;rw [if_neg e,if_pos j,show zgb.toList=[40] from by kernel_rfl]];go_enter func90,ntmps90;go_wp2;go_region;all_goals (try go_wp2)
  all_goals go_ret
  all_goals exact ⟨rfl,((qam _ _).alloc (qad _) _).drew⟩
 by_cases h1:(tk toks s.i).kind=1
 ·have n:zdh (tk toks s.i)=[sNot,zjq,zge,zff,zfa,zcj,zif,zei,sHas].any fun w=>(tk toks s.i).text.toList==w.toList:=by unfold zdh;rw [if_neg e,if_neg j,if_pos h1]
  rw [n,ops_any];clear n;go_enter func90,ntmps90;go_wp2;go_region;all_goals (try go_wp2)
  all_goals go_ret
  all_goals refine ⟨?_,((qam _ _).alloc (qad _) _).drew⟩
  all_goals (first
   | (exfalso;simp_all;done)
   | (refine Eq.trans (b:=Ending.returned (.bool true)) rfl ?_;simp [*];done)
   | (refine Eq.trans (b:=Ending.returned (.bool false)) rfl ?_;simp [*];done))
 rw [show zdh (tk toks s.i)=false by unfold zdh;rw [if_neg e,if_neg j,if_neg h1]];go_enter func90,ntmps90;go_wp2;go_region;all_goals (try go_wp2)
 all_goals go_ret
 all_goals exact ⟨rfl,((qam _ _).alloc (qad _) _).drew⟩
theorem zin (W:World) (g T c:Nat) (toks:List Tok) (s:RS) (d:Int) (k:Int) (n m:ByteArray) (v3 v4 v5 O:Value) (a:Int) (b e A5 A6:Option Addr) (n3 c3 n4 c4 i c5 n6 c6:Nat) (h:RSt W g T c toks s) :
  Calls prog 91 #[.pointer (some ⟨g,0,none⟩),.agg #[.int .i64 k,.string n,.string m,.slice b n3 c3,.slice e n4 c4,.slice A5 i c5,.slice A6 n6 c6,.int .i64 a],.int .i64 d] W fun e' W'=>
   e' = .returned (.tuple #[.agg #[.int .i64 k,.string n,.string m,.slice b n3 c3,.slice e n4 c4,.slice A5 i c5,.slice A6 n6 c6,.int .i64 a],.int .i64 d])/\RSt W' g T c toks (if d>16 then zcb 91 a s else s)/\Fr W W' (·=g):=by
 have hg:=h.lts.1;have M:=h.lts.2.1;have J:g≠W.heap.size+1:=kab;have I:T≠W.heap.size+1:=kab;have HX:=zq ((h.alloc (.cells #[.int .i64 k,.string n,.string m,.slice b n3 c3,.slice e n4 c4,.slice A5 i c5,.slice A6 n6 c6,.int .i64 a] 60)).alloc (.cells zbe 60));have w:=zq (((Fr.refl W (·=g)).alloc (.cells #[.int .i64 k,.string n,.string m,.slice b n3 c3,.slice e n4 c4,.slice A5 i c5,.slice A6 n6 c6,.int .i64 a] 60)).alloc (.cells zbe 60));have z:=zq (zaf (qac W (.cells #[.int .i64 k,.string n,.string m,.slice b n3 c3,.slice e n4 c4,.slice A5 i c5,.slice A6 n6 c6,.int .i64 a] 60)) (.cells zbe 60));have D:=zq (qac (W.alloc (.cells #[.int .i64 k,.string n,.string m,.slice b n3 c3,.slice e n4 c4,.slice A5 i c5,.slice A6 n6 c6,.int .i64 a] 60)) (.cells zbe 60));have B:=zq (fun W' G=>zdl W' g T c toks s 91 a G);have y:=zq ((h.alloc (.cells #[.int .i64 k,.string n,.string m,.slice b n3 c3,.slice e n4 c4,.slice A5 i c5,.slice A6 n6 c6,.int .i64 a] 60)).alloc (.cells #[.int .i64 k,.string n,.string m,.slice b n3 c3,.slice e n4 c4,.slice A5 i c5,.slice A6 n6 c6,.int .i64 a] 60));have x:=zq (((Fr.refl W (·=g)).alloc (.cells #[.int .i64 k,.string n,.string m,.slice b n3 c3,.slice e n4 c4,.slice A5 i c5,.slice A6 n6 c6,.int .i64 a] 60)).alloc (.cells #[.int .i64 k,.string n,.string m,.slice b n3 c3,.slice e n4 c4,.slice A5 i c5,.slice A6 n6 c6,.int .i64 a] 60));clear h;by_cases hd:d>16
 ·simp only [if_pos hd];go_enter func91,ntmps91;go_wp2_with (go_at_call 33;refine (B.o _ HX.o).mono ?_;rintro L w1 ⟨rfl,u,hF⟩;have j:=hF.blk z.o kah;have q:=hF.blk D.o (by rw [qae];show ¬W.heap.size+1=g;omega);rw [qae] at q;obtain ⟨y0,y1,y2,y3,y4,y5,y6,y7,z0,z1,z2,z3,z4,z5,z6,z7⟩:=zax q;have U:=zab j 0;have X:=zab j 1;have Y:=zab j 2;have Z:=zab j 3;have x4:=zab j 4;have x5:=zab j 5;have x6:=zab j 6;have x7:=zab j 7;have E:=zq q;have A:=zq u;have an:=zq (w.o.trans hF);clear u hF j q);have p:=zfs E.o (.int .i64 k) (.string n) (.string m) (.slice b n3 c3) (.slice e n4 c4) (.slice A5 i c5) (.slice A6 n6 c6) (.int .i64 a);have r:=zbn w1 (W.heap.size+1) (.int .i64 k) (.string n) (.string m) (.slice b n3 c3) (.slice e n4 c4) (.slice A5 i c5) (.slice A6 n6 c6) (.int .i64 a);refine qaf (zbg rfl _ _ (W.heap.size+1) 60 #[.int .i64 k,.string n,.string m,.slice b n3 c3,.slice e n4 c4,.slice A5 i c5,.slice A6 n6 c6,.int .i64 a] (0,0) _ rfl p underlying60 rfl kae) rfl ?_;exact ⟨rfl,A.o.fr r J I,an.o.then_ r fun k hk => .inr kab⟩
 simp only [if_neg hd];go_enter func91,ntmps91;go_wp2;have p:=qac (W.alloc (.cells #[.int .i64 k,.string n,.string m,.slice b n3 c3,.slice e n4 c4,.slice A5 i c5,.slice A6 n6 c6,.int .i64 a] 60)) (.cells #[.int .i64 k,.string n,.string m,.slice b n3 c3,.slice e n4 c4,.slice A5 i c5,.slice A6 n6 c6,.int .i64 a] 60);rw [qae] at p;refine qaf (zbg rfl _ _ (W.heap.size+1) 60 #[.int .i64 k,.string n,.string m,.slice b n3 c3,.slice e n4 c4,.slice A5 i c5,.slice A6 n6 c6,.int .i64 a] (0,0) _ rfl p underlying60 rfl kae) rfl ?_;exact ⟨rfl,y.o,x.o⟩
end
section
def zrs (a:Int):S60:=⟨0,⟨#[]⟩,⟨#[]⟩,[],[],[],[],a⟩
abbrev zbl (a:Int):Array Value:=#[.int .i64 0,.string ⟨#[]⟩,.string ⟨#[]⟩,.slice none 0 0,.slice none 0 0,.slice none 0 0,.slice none 0 0,.int .i64 a]
theorem zio (W:World) (b:Nat) (a:Int):Tree W b (zrs a) (zbl a).toList [] := .mk (Row.nil _ _ _ _) (Row.nil _ _ _ _) (Row.nil _ _ _ _) (Row.nil _ _ _ _) .nil
theorem zbm {W w:World} {g T c:Nat} {toks:List Tok} {s:RS} (hg:g<W.heap.size) (j:T<W.heap.size) (h:w.heap[W.heap.size]?=some (.cells zbe 60 (0,0))) (i:RSt w g T c toks s) (hF:Fr W w (·=g)) (v0 v1 v2 v3 v4 v5 b d:Value) :
  let W2:=zlf w W.heap.size v0 v1 v2 v3 v4 v5 b d
  W2.heap[W.heap.size]?=some (.cells #[v0,v1,v2,v3,v4,v5,b,d] 60 (0,0))/\RSt W2 g T c toks s/\Fr W W2 (·=g):=by
 intro W2;have e:=zbn w W.heap.size v0 v1 v2 v3 v4 v5 b d;exact ⟨zfs h _ _ _ _ _ _ _ _,i.fr e kab kab,hF.then_ e fun k hk => .inr kab⟩
section
variable (g T c:Nat) (toks:List Tok)
theorem zdz {w:ByteArray} {s:RS} (b:s.e≠0):isR toks w s=false:=by unfold isR;rw [qai b];rfl
theorem zdd {w:ByteArray} {s:RS} (b:s.e≠0):mayR toks w s=s:=by unfold mayR;rw [zdz toks b];rfl
theorem zfr {s:RS} (b:s.e≠0):zbu toks s=s:=if_neg b
theorem firstR_err (W:World) (s:RS) (L:s.e≠0) (h:RSt W g T c toks s) :
  Calls prog 149 #[.pointer (some ⟨g,0,none⟩)] W fun e' W'=>e' = .returned (.agg (zbl (tk toks s.i).place))/\RSt W' g T c toks s/\Fr W W' (·=g):=by
 have d:=fun o b=>((h.alloc o).alloc b).look;have s0:=fun o b=>(d o b).1;have s1:=fun o b=>(d o b).2.1;have d0:=fun o b=>(d o b).2.2.2.1;have d1:=fun o b=>(d o b).2.2.2.2.1;have d2:=fun o b=>(d o b).2.2.2.2.2.1;have d3:=fun o b=>(d o b).2.2.2.2.2.2.1;have d4:=fun o b=>(d o b).2.2.2.2.2.2.2.1;have d5:=fun o b=>(d o b).2.2.2.2.2.2.2.2;have j:=fun o=>(h.alloc o).look;have t0:=fun o=>(j o).1;have t1:=fun o=>(j o).2.1;have O:=fun o=>(j o).2.2.2.1;have G:=fun o=>(j o).2.2.2.2.1;have U:=fun o=>(j o).2.2.2.2.2.1;have X:=fun o=>(j o).2.2.2.2.2.2.1;have Y:=fun o=>(j o).2.2.2.2.2.2.2.1;have Z:=fun o=>(j o).2.2.2.2.2.2.2.2;have s2:=fun o b M=>(((h.alloc o).alloc b).alloc M).facts.2.2.1;have ad:=h.here;have af:=h.many;have hg:=h.lts.1;have J:=h.lts.2.1;have q:=zq (fun W' I=>zdn W' g T c toks s I);rw [zfr toks L] at q;have ah:=zq (((h.alloc (.cells zbe 60)).alloc (tokQ (tk toks s.i))).alloc (.cells (zbl (tk toks s.i).place) 60)).drew;have w:=zq ((((Fr.refl W (·=g)).alloc (.cells zbe 60)).alloc (tokQ (tk toks s.i))).alloc (.cells (zbl (tk toks s.i).place) 60)).drew;have A:=zq (zaf (zaf (qac W (.cells zbe 60)) (tokQ (tk toks s.i))) (.cells (zbl (tk toks s.i).place) 60));have hn:=qac ((W.alloc (.cells zbe 60)).alloc (tokQ (tk toks s.i))) (.cells (zbl (tk toks s.i).place) 60);rw [qae,qae] at hn;have x:=zq hn;clear h d j hn;go_enter func149,ntmps149;go_wp2;go_region;all_goals go_wp2_with (go_at_call 56;refine (q.o _ ah.o).mono ?_;rintro G w1 ⟨rfl,r,hF⟩;have n:=hF.undrew.blk x.o kbk;have p:=hF.undrew.blk A.o kah;obtain ⟨y0,y1,y2,y3,y4,y5,y6,y7,z0,z1,z2,z3,z4,z5,z6,z7⟩:=zax p;have q0:=zab n 0;have q1:=zab n 1;have q2:=zab n 2;have q3:=zab n 3;have q4:=zab n 4;have q5:=zab n 5;have q6:=zab n 6;have q7:=zab n 7;have y:=zq r;have u:=zq (w.o.trans hF);have z:=zq p;clear r hF n p)
 all_goals
  obtain ⟨B,D,E⟩:=zbm hg J z.o y.o u.o (.int .i64 0) (.string ⟨#[]⟩) (.string ⟨#[]⟩) (.slice none 0 0) (.slice none 0 0) (.slice none 0 0) (.slice none 0 0) (.int .i64 (tk toks s.i).place);refine qaf (qat rfl _ _ W.heap.size 60 (zbl (tk toks s.i).place) (0,0) _ rfl B underlying60 rfl kae) rfl ?_;exact ⟨rfl,D,E⟩
theorem notR_err (aa:∀ k,k<toks.length->(tk toks k).kind≠8->k+1<toks.length) (W:World) (s:RS) (n:s.e≠0) (h:RSt W g T c toks s) :
  Calls prog 120 #[.pointer (some ⟨g,0,none⟩)] W fun e' W'=>e' = .returned (.tuple #[.agg (zbl (tk toks s.i).place),.int .i64 1])/\RSt W' g T c toks s/\Fr W W' (·=g):=by
 have d:=fun o=>(h.alloc o).look;have t0:=fun o=>(d o).1;have t1:=fun o=>(d o).2.1;have Z:=fun o=>(d o).2.2.2.2.2.2.2.2;have ad:=h.here;have af:=h.many;have hg:=h.lts.1;have O:=h.lts.2.1;have j:=zq (fun W' w p=>zcs g T c toks aa W' s w p);have z:=zq (fun W' p=>firstR_err g T c toks W' s n p);simp only [zdz toks n,zdd toks n] at j;have r:=j;have ah:=zq (h.alloc (.cells zbe 60)).drew;have u:=zq ((Fr.refl W (·=g)).alloc (.cells zbe 60)).drew;have D:=zq (qac W (.cells zbe 60));clear h d n;go_enter func120,ntmps120;go_wp2;go_region;all_goals go_wp2_with (first
  | (go_at_call 88;refine (j.o _ _ ah.o).mono ?_;rintro U w1 ⟨rfl,b,hF⟩;have ab:=zq b;have an:=zq (u.o.trans hF);have E:=zq (hF.undrew.blk D.o kah);clear b hF j)
  | (go_at_call 88;refine (r.o _ _ ab.o).mono ?_;rintro X w2 ⟨rfl,b,hF⟩;have A:=zq b;have x:=zq (an.o.trans hF);have G:=zq (hF.blk E.o kah);clear b hF r)
  | (go_at_call 149;refine (z.o _ A.o).mono ?_;rintro Y w3 ⟨rfl,b,hF⟩;have B:=zq b;have y:=zq (x.o.trans hF);have q:=hF.blk G.o kah;obtain ⟨y0,y1,y2,y3,y4,y5,y6,y7,z0,z1,z2,z3,z4,z5,z6,z7⟩:=zax q;have I:=zq q;clear b hF q))
 all_goals
  obtain ⟨J,L,M⟩:=zbm hg O I.o B.o y.o (.int .i64 0) (.string ⟨#[]⟩) (.string ⟨#[]⟩) (.slice none 0 0) (.slice none 0 0) (.slice none 0 0) (.slice none 0 0) (.int .i64 (tk toks s.i).place);refine qaf (zbg rfl _ _ W.heap.size 60 (zbl (tk toks s.i).place) (0,0) _ rfl J underlying60 rfl kae) rfl ?_;exact ⟨rfl,L,M⟩
end
end
section
theorem zbb {P:Program} {W:World} {ops:Array Oper} {rest:List Oper} {o:Oper} {a:Act} {Q:Exit->Act->World->Prop} {m:Nat} (y:W.heap.size=m) (b:Nat) (p:o.guard=none) (s x:Operand) (t e:TypeId) (z:Value) (size bytes:Nat)
  (A:o.op = .call { callee := .builtin .append,args:=#[s,x],argTypes:=#[t,t] })
  (ht:P.underlying t=some (.slice e)) (q:(P.info? e).map (fun i=>(i.zero,i.size,i.bytes))=some (some z,size,bytes)) (G:z.cells.size=size) (B:0<size)
  (v:Value) (n:Nat) (xs ys:List Value) (hs:a.eval s=v) (D:a.eval x = .slice (some ⟨m,0,none⟩) 1 1) (E:ys.length=size) (h1:∀ u∈ys,u.oneCell'=true)
  (d:Row W b e size v n xs) (j:b<=W.heap.size) (w:n+1<=maxLen) (r:(n+1)*bytes<=140737488355328)
  (h:∀ v1 w1,Row w1 b e size v1 (n+1) (xs++ys)->W.grownBy w1 v.ownBlock->(v1.ownBlock=v.ownBlock\/v1.ownBlock=some (W.heap.size+1))->v1.ownBlock≠none->wpList P ops Q rest (a.put o.dst v1) w1) :
  wpList P ops Q (o::rest) a (W.alloc (.cells ys.toArray e)):=by
 subst y;exact zcq (w0:=W) b p s x t e z size bytes A ht q G B v n xs ys hs D E h1 d j w r fun v1 w1 a1 a2 a3 a4 _=>h v1 w1 a1 a2 a3 a4
def zem (W:World) (g T c:Nat) (toks:List Tok) (Q:S60->Int->RS->Prop) (e:Ending) (W':World):Prop:=
 ∃ x d cs L st,e = .returned (.tuple #[.agg cs.toArray,.int .i64 d])/\Tree W' W.heap.size x cs L/\RSt W' g T c toks st/\Fr W W' (·=g)/\Q x d st
def OkQ (r:PR CD) (p:Int) (x:S60) (d:Int) (st:RS):Prop:=match r with
 | .ok y j=>x=y.1/\d=y.2/\y.2<=16/\st=⟨j,0,p⟩
 | .bad e q=>st.e=e/\st.p=q/\e≠0
def ErrQ (b:RS) (x:S60) (d:Int) (st:RS):Prop:=st=b
structure RowR (W:World) (g T c:Nat) (toks:List Tok) (st:RS) (m:Nat) (kd a:Int) (l:List S60) (v:Value) (W':World):Prop where
 st:RSt W' g T c toks st
 fr:Fr W W' (·=g)
 res:W'.heap[W.heap.size]?=some (.cells zbe 60 (0,0))
 cnd:W'.heap[m]?=some (.cells #[.int .i64 kd,.string ⟨#[]⟩,.string ⟨#[]⟩,.slice none 0 0,.slice none 0 0,.slice none 0 0,v,.int .i64 a] 60 (0,0))
 lt:W.heap.size<m
 row:∃ cells L,Row W' (W.heap.size+1) 60 8 v l.length cells/\Forest W' (W.heap.size+1) l cells L/\(∀ b,v.ownBlock=some b->b∉L/\b≠m)/\m∉L
 pos:0<l.length
 many:l.length<=33
section
variable {W W1 W2:World} {g T c m:Nat} {toks:List Tok} {st ay:RS} {kd a:Int} {l:List S60} {v:Value}
theorem RowR.move (h:RowR W g T c toks st m kd a l v W1) (hg:g<W.heap.size) (o:RSt W2 g T c toks ay) (hF:Fr W1 W2 (·=g)):RowR W g T c toks ay m kd a l v W2:=by
 obtain ⟨cells,L,h1,i,j,n⟩:=h.row;have p:=h.lt;exact ⟨o,h.fr.trans hF,hF.blk h.res kab,hF.blk h.cnd kab,h.lt,⟨cells,L,h1.fr hF (fun d b e=>by have:=(h1.blk b).1;omega),i.fr hF (fun d b e=>by have:=(i.lt d b).1;omega),j,n⟩,h.pos,h.many⟩
theorem RowR.start {x:S60} {cs:List Value} {L:List Nat} (hg:g<W.heap.size) (o:T<W.heap.size) (e:Tree W1 (W.heap.size+1) x cs L) (j:RSt W1 g T c toks st) (hF:Fr W W1 (·=g)) (hs:W.heap.size+1<=W1.heap.size) (n:W1.heap[W.heap.size]?=some (.cells zbe 60 (0,0))) (kd a:Int) :
  RowR W g T c toks st (W1.heap.size+1+1) kd a [x] (.slice (some ⟨W1.heap.size+1,0,none⟩) 1 1)
   (((W1.alloc (.cells cs.toArray 60)).alloc (.cells cs.toArray 60)).alloc (.cells #[.int .i64 kd,.string ⟨#[]⟩,.string ⟨#[]⟩,.slice none 0 0,.slice none 0 0,.slice none 0 0,.slice (some ⟨W1.heap.size+1,0,none⟩) 1 1,.int .i64 a] 60)):=by
 have hf:Forest (((W1.alloc (.cells cs.toArray 60)).alloc (.cells cs.toArray 60)).alloc (.cells #[.int .i64 kd,.string ⟨#[]⟩,.string ⟨#[]⟩,.slice none 0 0,.slice none 0 0,.slice none 0 0,.slice (some ⟨W1.heap.size+1,0,none⟩) 1 1,.int .i64 a] 60)) (W.heap.size+1) [x] (cs++[]) (L++[]) := .cons (((e.alloc _).alloc _).alloc _) .nil;rw [List.append_nil,List.append_nil] at hf;have hr:=zqp (W1.alloc (.cells cs.toArray 60)) (W.heap.size+1) 60 8 1 cs kax e.length (by unfold maxLen;omega);rw [qae] at hr;have d:=qac ((W1.alloc (.cells cs.toArray 60)).alloc (.cells cs.toArray 60)) (.cells #[.int .i64 kd,.string ⟨#[]⟩,.string ⟨#[]⟩,.slice none 0 0,.slice none 0 0,.slice none 0 0,.slice (some ⟨W1.heap.size+1,0,none⟩) 1 1,.int .i64 a] 60);rw [qae,qae] at d;refine ⟨((j.alloc _).alloc _).alloc _,((hF.alloc _).alloc _).alloc _,zaf (zaf (zaf n _) _) _,d,kab,⟨cs,L,hr.alloc _,hf,fun b i=>?_,fun d=>?_⟩,by simp,by simp⟩
 ·have i:W1.heap.size+1=b:=by simpa [Value.ownBlock] using i
  exact ⟨fun d=>by have:=(e.lt b d).2;omega,kab⟩
 have:=(e.lt _ d).2;omega
theorem RowR.snoc {x:S60} {cs cells:List Value} {L M:List Nat} {v1:Value} {w1:World} (h:RowR W g T c toks st m kd a l v W2) (hg:g<W.heap.size) (hT:T<W.heap.size) (hl:l.length<33)
  (af:Row W2 (W.heap.size+1) 60 8 v l.length cells) (u:Forest W2 (W.heap.size+1) l cells L) (r:∀ b,v.ownBlock=some b->b∉L/\b≠m) (Y:m∉L) {p:Nat} (I:W.heap.size+1<=p) (a6:m<p) (z:∀ b,v.ownBlock=some b->b<p)
  (n:Tree W2 p x cs M) (ad:Row w1 (W.heap.size+1) 60 8 v1 (l.length+1) (cells++cs)) (w:W2.grownBy w1 v.ownBlock) (d:v1.ownBlock=v.ownBlock\/v1.ownBlock=some (W2.heap.size+1)) :
  RowR W g T c toks st m kd a (l++[x]) v1 (w1.setCell ⟨m,6,none⟩ v1):=by
 have a1:=h.lt;have q:∀ b,v.ownBlock=some b->W.heap.size+1<=b:=fun b j=>(af.blk j).1;have far:∀ k,k<W2.heap.size->v.ownBlock≠some k->w1.heap[k]?=W2.heap[k]?:=fun k hk hn=>w.block k hk (fun e=>hn e.symm);have X:=h.st.lts.1;have G:=h.st.lts.2.1;have Z:=zam h.cnd;have B:v.ownBlock≠some m:=fun e=>(r m e).2 rfl;have A:v1.ownBlock≠some m:=fun e=>by
  rcases d with d|d
  ·exact B (d ▸ e)
  rw [e] at d;have:=qaa d;omega
 have J:=(far m Z B).trans h.cnd;have D:Fr W w1 (·=g):=h.fr.then_ (Fr.of_grown (S:=fun k=>some k=v.ownBlock) w (fun k hk=>hk.symm)) (fun k hk => .inr (by have:=q k hk.symm;omega));have o:Fr w1 (w1.setCell ⟨m,6,none⟩ v1) (·=m):=Fr.setCell (S:=(·=m)) (Fr.refl _ _) (.inl rfl) _;have E:RSt w1 g T c toks st:=h.st.blk (far g X fun e=>by have:=q g e;omega) (far T G fun e=>by have:=q T e;omega);have O:=Forest.snoc (u.frame (w1:=w1) fun k hk=>far k (u.lt k hk).2 fun e=>(r k e).1 hk) (Tree.lower I (n.frame (w1:=w1) fun k hk=>far k (n.lt k hk).2 fun e=>by
  have:=z k e;have:=(n.lt k hk).1;omega))
 have y:m∉L++M:=fun i=>by
  rcases qbg.1 i with i|i
  ·exact Y i
  have:=(n.lt m i).1;omega
 refine ⟨E.fr o kab kab,D.then_ o fun k hk => .inr kab,o.blk ((far _ (zam h.res) fun e=>by have:=q _ e;omega).trans h.res) kab,zan J 6 v1 rfl,h.lt,⟨cells++cs,L++M,?_,O.fr o (fun k hk e=>y (e ▸ hk)),?_,y⟩,by simp,kbv⟩
 ·rw [qas];exact ad.fr o fun g' U e=>A (by rw [U,e])
 intro b j;refine ⟨fun i=>?_,fun e=>A (e ▸ j)⟩;rcases qbg.1 i with i|i
 ·rcases d with d|d
  ·exact (r b (d ▸ j)).1 i
  have h1:=(u.lt b i).2;rw [j] at d;have:=qaa d;omega
 rcases d with d|d
 ·have:=z b (d ▸ j);have:=(n.lt b i).1;omega
 have h1:=(n.lt b i).2;rw [j] at d;have:=qaa d;omega
theorem RowR.over (h:RowR W g T c toks st m kd a l v W1):∃ A cap L,v = .slice A l.length cap/\l.length<=cap/\Zq (Tree W1 (W.heap.size+1) ⟨kd,⟨#[]⟩,⟨#[]⟩,[],[],[],l,a⟩ [.int .i64 kd,.string ⟨#[]⟩,.string ⟨#[]⟩,.slice none 0 0,.slice none 0 0,.slice none 0 0,.slice A l.length cap,.int .i64 a] L) /\
  W1.cell? ⟨m,6,none⟩=some (.slice A l.length cap)/\W1.frozen? ⟨m,6,none⟩=false:=by
 obtain ⟨cells,L,h1,b,e,i⟩:=h.row;obtain ⟨A,cap,rfl,d,-⟩:=h1.form;exact ⟨A,cap,_,rfl,d,⟨zlx kd a h1 b⟩,zab h.cnd 6,zac h.cnd 6⟩
end
end
end Go.Proofs.YtjeekocidaogoaaGreatDoor.H
