import Derived.Test.YtjeekocidaogoaaGreatDoorK7Addr
import Derived.Test.YtjeekocidaogoaaGreatDoorK7PrN
import Derived.Test.YtjeekocidaogoaaGreatDoorK7Hx5
import Derived.Deep.RegionLaw
set_option linter.unusedVariables false
set_option linter.unusedSimpArgs false
set_option maxRecDepth 100000
set_option maxHeartbeats 8000000
open Go.Proofs.Tryz
namespace Go.Proofs.YtjeekocidaogoaaGreatDoor.H
open Go.RowKit Go.Proofs.YtjeekocidaogoaaGreatDoor.Hand Go.Proofs.YtjeekocidaogoaaGreatDoorW.PrintWords Go.Proofs.YtjeekocidaogoaaGreatDoorW.PrintLast Go.Proofs.YtjeekocidaogoaaGreatDoorW.PrintMore
section
attribute [local go_sem] zdv zdt zel zek zcz zcy zdu zds
attribute [local go_sem high] eqA47 eqA68
def api_Prefix.l0:Nat->List (S47)->List (S47)->Int->Int->Option (Bool)
 | 0,_,_,_,_=>none
 | k+1,c,d,e,b=>if b<e then (if 0<=b then (if b<(c.length:Int) then (if b<(d.length:Int) then (if (!(((zee c b).f0)==((zee d b).f0))||(!(((zee c b).f1)==((zee d b).f1))))=true then (some false) else (api_Prefix.l0 k c d e (wrap64 (b+1)))) else (none)) else (none)) else (none)) else (some true)
def api_Prefix.f (k:Nat) (l0:List (S47)) (l1:List (S47)):Option (Bool):=if (l0.length:Int)=(l1.length:Int) then (api_Prefix.l0 k l0 l1 (l0.length:Int) 0) else (some false)
theorem api_Prefix.calls (k:Nat) (q:Option Addr) (c0:Nat) (l0:List (S47)) (s:Option Addr) (c1:Nat) (l1:List (S47)) (r:Bool) (w:World) (G:Kd.C k47 w q l0.length l0) (D:l0.length<=c0) (I:Kd.C k47 w s l1.length l1) (E:l1.length<=c1) (h:api_Prefix.f k l0 l1=some r) :
  Calls prog 74 #[.slice q l0.length c0,.slice s l1.length c1] w fun e w'=>e = .returned (.bool r)/\Drawn0 w w':=by
 have aA:=underlying47;have x:=zq G;have af:=zq D;clear G D;have y:=zq I;have a1:=zq E;clear I E;have H:(if (l0.length:Int)=(l1.length:Int) then (api_Prefix.l0 k l0 l1 (l0.length:Int) 0) else (some false))=some r:=h;clear h;by_cases c3:(l0.length:Int)=(l1.length:Int)
 ·rw [if_pos c3] at H;have z:((l0.length:Int)==(l1.length:Int))=true:=qar.mpr c3;have A:((l0.length:Int)!=(l1.length:Int))=false:=qaq.mpr c3;have B:(l0.length==l1.length)=true:=by first|simpa using c3|(simp at c3 ⊢;omega)
  clear c3;have l:=zq H;clear H;go_enter func74,ntmps74;go_wp2;repeat (go_quiet (fail);try go_wp2)
  go_loopg [13] k (fun J ad w'=>∃ (b:Int),ad = .int .i64 b/\Zq (api_Prefix.l0 J l0 l1 (l0.length:Int) b=some r)/\Zq (J<=k)/\Drawn0 w w');case atStart=>exact ⟨(0),kaf,l,⟨qad _⟩,by repeat (first|exact Drawn0.refl _|apply Drawn0.step)⟩
  case round=>
   clear l;(try clear c1);(try clear p2);(try clear c3);(try clear z);(try clear A);(try clear B);obtain ⟨b,rfl,m,u,⟨m1,rfl⟩⟩:=hrel;cases gk with
   | zero=>exact absurd m.o (by simp [api_Prefix.l0])
   | succ k1=>
    have H:=m.o;clear m;simp only [api_Prefix.l0] at H;by_cases c4:b<(l0.length:Int)
    ·rw [if_pos c4] at H;have O:decide (b<(l0.length:Int))=true:=qac c4;clear c4;by_cases c5:0<=b
     ·rw [if_pos c5] at H;have a6:decide (0<=b)=true:=qac c5;clear c5;by_cases c6:b<(l0.length:Int)
      ·rw [if_pos c6] at H;have a7:decide (b<(l0.length:Int))=true:=qac c6;clear c6;by_cases c7:b<(l1.length:Int)
       ·rw [if_pos c7] at H;have a8:decide (b<(l1.length:Int))=true:=qac c7;clear c7;by_cases c8:(!(((zee l0 b).f0)==((zee l1 b).f0))||(!(((zee l0 b).f1)==((zee l1 b).f1))))=true
        ·rw [if_pos c8] at H;have U:(!(((zee l0 b).f0)==((zee l1 b).f0))||(!(((zee l0 b).f1)==((zee l1 b).f1))))=true:=c8;clear c8;obtain rfl:=qaa H;have c:0<=(b:Int):=kao;have i:b<(l0.length:Int):=kao;obtain ⟨L,n,W,X⟩:=zqh x.o b c i;cases n;replace c:=eq_true c;replace i:=eq_true i;have d:0<=(b:Int):=kao;have j:b<(l1.length:Int):=kao;obtain ⟨M,p,Y,Z⟩:=zqh y.o b d j;cases p;replace d:=eq_true d;replace j:=eq_true j;go_wp2;(repeat (go_quiet (fail);try go_wp2));go_ret;exact ⟨kaf,by repeat (first|exact Drawn0.refl _|apply Drawn0.step)⟩
        rw [if_neg c8] at H;have U:(!(((zee l0 b).f0)==((zee l1 b).f0))||(!(((zee l0 b).f1)==((zee l1 b).f1))))=false:=(by simpa using c8);clear c8;have l:=zq H;clear H;have c:0<=(b:Int):=kao;have i:b<(l0.length:Int):=kao;obtain ⟨L,n,W,X⟩:=zqh x.o b c i;cases n;replace c:=eq_true c;replace i:=eq_true i;have d:0<=(b:Int):=kao;have j:b<(l1.length:Int):=kao;obtain ⟨M,p,Y,Z⟩:=zqh y.o b d j;cases p;replace d:=eq_true d;replace j:=eq_true j;go_wp2;repeat (go_quiet (fail);try go_wp2)
        go_roundg k1
        case measure=>have:=u.o;omega
        case rel=>exact ⟨(wrap64 (b+1)),kaf,l,⟨by have:=u.o;omega⟩,by repeat (first|exact Drawn0.refl _|apply Drawn0.step)⟩
       rw [if_neg c7] at H;exact absurd H (by simp)
      rw [if_neg c6] at H;exact absurd H (by simp)
     rw [if_neg c5] at H;exact absurd H (by simp)
    rw [if_neg c4] at H;have O:decide (b<(l0.length:Int))=false:=qak c4;clear c4;obtain rfl:=qaa H;go_wp2;(repeat (go_quiet (fail);try go_wp2));go_ret;exact ⟨kaf,by repeat (first|exact Drawn0.refl _|apply Drawn0.step)⟩
 rw [if_neg c3] at H;have z:((l0.length:Int)==(l1.length:Int))=false:=qah.mpr c3;have A:((l0.length:Int)!=(l1.length:Int))=true:=qbc.mpr c3;have B:(l0.length==l1.length)=false:=by first|simpa using c3|(simp at c3 ⊢;omega)
 obtain rfl:=qaa H;go_enter func74,ntmps74;go_wp2;repeat (go_quiet (fail);try go_wp2)
 go_ret;exact ⟨kaf,by repeat (first|exact Drawn0.refl _|apply Drawn0.step)⟩
def api_Span.l0:Nat->List (S68)->List (S68)->Int->Int->Option (Bool)
 | 0,_,_,_,_=>none
 | k+1,c,d,e,b=>if b<e then (if 0<=b then (if b<(c.length:Int) then (if b<(d.length:Int) then (if (!(((zed c b).f0)==((zed d b).f0))||(!(((zed c b).f1)==((zed d b).f1))))=true then (some false) else (api_Span.l0 k c d e (wrap64 (b+1)))) else (none)) else (none)) else (none)) else (some true)
def api_Span.f (k:Nat) (l0:List (S68)) (l1:List (S68)):Option (Bool):=if (l0.length:Int)=(l1.length:Int) then (api_Span.l0 k l0 l1 (l0.length:Int) 0) else (some false)
theorem api_Span.calls (k:Nat) (q:Option Addr) (c0:Nat) (l0:List (S68)) (s:Option Addr) (c1:Nat) (l1:List (S68)) (r:Bool) (w:World) (G:Kd.C k68 w q l0.length l0) (D:l0.length<=c0) (I:Kd.C k68 w s l1.length l1) (E:l1.length<=c1) (h:api_Span.f k l0 l1=some r) :
  Calls prog 75 #[.slice q l0.length c0,.slice s l1.length c1] w fun e w'=>e = .returned (.bool r)/\Drawn0 w w':=by
 have aA:=underlying68;have x:=zq G;have af:=zq D;clear G D;have y:=zq I;have a1:=zq E;clear I E;have H:(if (l0.length:Int)=(l1.length:Int) then (api_Span.l0 k l0 l1 (l0.length:Int) 0) else (some false))=some r:=h;clear h;by_cases c3:(l0.length:Int)=(l1.length:Int)
 ·rw [if_pos c3] at H;have z:((l0.length:Int)==(l1.length:Int))=true:=qar.mpr c3;have A:((l0.length:Int)!=(l1.length:Int))=false:=qaq.mpr c3;have B:(l0.length==l1.length)=true:=by first|simpa using c3|(simp at c3 ⊢;omega)
  clear c3;have l:=zq H;clear H;go_enter func75,ntmps75;go_wp2;repeat (go_quiet (fail);try go_wp2)
  go_loopg [13] k (fun J ad w'=>∃ (b:Int),ad = .int .i64 b/\Zq (api_Span.l0 J l0 l1 (l0.length:Int) b=some r)/\Zq (J<=k)/\Drawn0 w w');case atStart=>exact ⟨(0),kaf,l,⟨qad _⟩,by repeat (first|exact Drawn0.refl _|apply Drawn0.step)⟩
  case round=>
   clear l;(try clear c1);(try clear p2);(try clear c3);(try clear z);(try clear A);(try clear B);obtain ⟨b,rfl,m,u,⟨m1,rfl⟩⟩:=hrel;cases gk with
   | zero=>exact absurd m.o (by simp [api_Span.l0])
   | succ k1=>
    have H:=m.o;clear m;simp only [api_Span.l0] at H;by_cases c4:b<(l0.length:Int)
    ·rw [if_pos c4] at H;have O:decide (b<(l0.length:Int))=true:=qac c4;clear c4;by_cases c5:0<=b
     ·rw [if_pos c5] at H;have a6:decide (0<=b)=true:=qac c5;clear c5;by_cases c6:b<(l0.length:Int)
      ·rw [if_pos c6] at H;have a7:decide (b<(l0.length:Int))=true:=qac c6;clear c6;by_cases c7:b<(l1.length:Int)
       ·rw [if_pos c7] at H;have a8:decide (b<(l1.length:Int))=true:=qac c7;clear c7;by_cases c8:(!(((zed l0 b).f0)==((zed l1 b).f0))||(!(((zed l0 b).f1)==((zed l1 b).f1))))=true
        ·rw [if_pos c8] at H;have U:(!(((zed l0 b).f0)==((zed l1 b).f0))||(!(((zed l0 b).f1)==((zed l1 b).f1))))=true:=c8;clear c8;obtain rfl:=qaa H;have c:0<=(b:Int):=kao;have i:b<(l0.length:Int):=kao;obtain ⟨L,n,W,X⟩:=znq x.o b c i;cases n;replace c:=eq_true c;replace i:=eq_true i;have d:0<=(b:Int):=kao;have j:b<(l1.length:Int):=kao;obtain ⟨M,p,Y,Z⟩:=znq y.o b d j;cases p;replace d:=eq_true d;replace j:=eq_true j;go_wp2;(repeat (go_quiet (fail);try go_wp2));go_ret;exact ⟨kaf,by repeat (first|exact Drawn0.refl _|apply Drawn0.step)⟩
        rw [if_neg c8] at H;have U:(!(((zed l0 b).f0)==((zed l1 b).f0))||(!(((zed l0 b).f1)==((zed l1 b).f1))))=false:=(by simpa using c8);clear c8;have l:=zq H;clear H;have c:0<=(b:Int):=kao;have i:b<(l0.length:Int):=kao;obtain ⟨L,n,W,X⟩:=znq x.o b c i;cases n;replace c:=eq_true c;replace i:=eq_true i;have d:0<=(b:Int):=kao;have j:b<(l1.length:Int):=kao;obtain ⟨M,p,Y,Z⟩:=znq y.o b d j;cases p;replace d:=eq_true d;replace j:=eq_true j;go_wp2;repeat (go_quiet (fail);try go_wp2)
        go_roundg k1
        case measure=>have:=u.o;omega
        case rel=>exact ⟨(wrap64 (b+1)),kaf,l,⟨by have:=u.o;omega⟩,by repeat (first|exact Drawn0.refl _|apply Drawn0.step)⟩
       rw [if_neg c7] at H;exact absurd H (by simp)
      rw [if_neg c6] at H;exact absurd H (by simp)
     rw [if_neg c5] at H;exact absurd H (by simp)
    rw [if_neg c4] at H;have O:decide (b<(l0.length:Int))=false:=qak c4;clear c4;obtain rfl:=qaa H;go_wp2;(repeat (go_quiet (fail);try go_wp2));go_ret;exact ⟨kaf,by repeat (first|exact Drawn0.refl _|apply Drawn0.step)⟩
 rw [if_neg c3] at H;have z:((l0.length:Int)==(l1.length:Int))=false:=qah.mpr c3;have A:((l0.length:Int)!=(l1.length:Int))=true:=qbc.mpr c3;have B:(l0.length==l1.length)=false:=by first|simpa using c3|(simp at c3 ⊢;omega)
 obtain rfl:=qaa H;go_enter func75,ntmps75;go_wp2;repeat (go_quiet (fail);try go_wp2)
 go_ret;exact ⟨kaf,by repeat (first|exact Drawn0.refl _|apply Drawn0.step)⟩
def slices_Equal_string_string.l0:Nat->List ByteArray->List ByteArray->Int->Int->Option (Bool)
 | 0,_,_,_,_=>none
 | k+1,c,d,e,b=>if b<e then (if 0<=b then (if b<(c.length:Int) then (if b<(d.length:Int) then (if (rdOf ByteArray.empty c b).toList=(rdOf ByteArray.empty d b).toList then (slices_Equal_string_string.l0 k c d e (wrap64 (b+1))) else (some false)) else (none)) else (none)) else (none)) else (some true)
def slices_Equal_string_string.f (k:Nat) (l0:List ByteArray) (l1:List ByteArray):Option (Bool):=if (l0.length:Int)=(l1.length:Int) then (slices_Equal_string_string.l0 k l0 l1 (l0.length:Int) 0) else (some false)
theorem slices_Equal_string_string.calls (k:Nat) (q:Option Addr) (c0:Nat) (l0:List ByteArray) (s:Option Addr) (c1:Nat) (l1:List ByteArray) (r:Bool) (w:World) (G:Kd.C Kd.string w q l0.length l0) (D:l0.length<=c0) (I:Kd.C Kd.string w s l1.length l1) (E:l1.length<=c1) (h:slices_Equal_string_string.f k l0 l1=some r) :
  Calls prog 76 #[.slice q l0.length c0,.slice s l1.length c1] w fun e w'=>e = .returned (.bool r)/\Drawn0 w w':=by
 have x:=zq G;have af:=zq D;clear G D;have y:=zq I;have a1:=zq E;clear I E;have H:(if (l0.length:Int)=(l1.length:Int) then (slices_Equal_string_string.l0 k l0 l1 (l0.length:Int) 0) else (some false))=some r:=h;clear h;by_cases c3:(l0.length:Int)=(l1.length:Int)
 ·rw [if_pos c3] at H;have z:((l0.length:Int)==(l1.length:Int))=true:=qar.mpr c3;have A:((l0.length:Int)!=(l1.length:Int))=false:=qaq.mpr c3;have B:(l0.length==l1.length)=true:=by first|simpa using c3|(simp at c3 ⊢;omega)
  clear c3;have l:=zq H;clear H;go_enter func76,ntmps76;go_wp2;repeat (go_quiet (fail);try go_wp2)
  go_loopg [13] k (fun J ad w'=>∃ (b:Int),ad = .int .i64 b/\Zq (slices_Equal_string_string.l0 J l0 l1 (l0.length:Int) b=some r)/\Zq (J<=k)/\Drawn0 w w');case atStart=>exact ⟨(0),kaf,l,⟨qad _⟩,by repeat (first|exact Drawn0.refl _|apply Drawn0.step)⟩
  case round=>
   clear l;(try clear c1);(try clear p2);(try clear c3);(try clear z);(try clear A);(try clear B);obtain ⟨b,rfl,m,u,⟨m1,rfl⟩⟩:=hrel;cases gk with
   | zero=>exact absurd m.o (by simp [slices_Equal_string_string.l0])
   | succ Z=>
    have H:=m.o;clear m;simp only [slices_Equal_string_string.l0] at H;by_cases c4:b<(l0.length:Int)
    ·rw [if_pos c4] at H;have O:decide (b<(l0.length:Int))=true:=qac c4;clear c4;by_cases c5:0<=b
     ·rw [if_pos c5] at H;have a6:decide (0<=b)=true:=qac c5;clear c5;by_cases c6:b<(l0.length:Int)
      ·rw [if_pos c6] at H;have a7:decide (b<(l0.length:Int))=true:=qac c6;clear c6;by_cases c7:b<(l1.length:Int)
       ·rw [if_pos c7] at H;have a8:decide (b<(l1.length:Int))=true:=qac c7;clear c7;by_cases c8:(rdOf ByteArray.empty l0 b).toList=(rdOf ByteArray.empty l1 b).toList
        ·rw [if_pos c8] at H;have U:((rdOf ByteArray.empty l0 b).toList==(rdOf ByteArray.empty l1 b).toList)=true:=qar.mpr c8;have W:((rdOf ByteArray.empty l0 b).toList !=(rdOf ByteArray.empty l1 b).toList)=false:=qaq.mpr c8;clear c8;have l:=zq H;clear H;have c:0<=(b:Int):=kao;have i:b<(l0.length:Int):=kao;obtain ⟨L,n,X⟩:=Kd.at_string x.o b c i;cases n;replace c:=eq_true c;replace i:=eq_true i;have d:0<=(b:Int):=kao;have j:b<(l1.length:Int):=kao;obtain ⟨M,p,Y⟩:=Kd.at_string y.o b d j;cases p;replace d:=eq_true d;replace j:=eq_true j;go_wp2;repeat (go_quiet (fail);try go_wp2)
         go_roundg Z
         case measure=>have:=u.o;omega
         case rel=>exact ⟨(wrap64 (b+1)),kaf,l,⟨by have:=u.o;omega⟩,by repeat (first|exact Drawn0.refl _|apply Drawn0.step)⟩
        rw [if_neg c8] at H;have U:((rdOf ByteArray.empty l0 b).toList==(rdOf ByteArray.empty l1 b).toList)=false:=qah.mpr c8;have W:((rdOf ByteArray.empty l0 b).toList !=(rdOf ByteArray.empty l1 b).toList)=true:=qbc.mpr c8;obtain rfl:=qaa H;have c:0<=(b:Int):=kao;have i:b<(l0.length:Int):=kao;obtain ⟨L,n,X⟩:=Kd.at_string x.o b c i;cases n;replace c:=eq_true c;replace i:=eq_true i;have d:0<=(b:Int):=kao;have j:b<(l1.length:Int):=kao;obtain ⟨M,p,Y⟩:=Kd.at_string y.o b d j;cases p;replace d:=eq_true d;replace j:=eq_true j;go_wp2;(repeat (go_quiet (fail);try go_wp2));go_ret;exact ⟨kaf,by repeat (first|exact Drawn0.refl _|apply Drawn0.step)⟩
       rw [if_neg c7] at H;exact absurd H (by simp)
      rw [if_neg c6] at H;exact absurd H (by simp)
     rw [if_neg c5] at H;exact absurd H (by simp)
    rw [if_neg c4] at H;have O:decide (b<(l0.length:Int))=false:=qak c4;clear c4;obtain rfl:=qaa H;go_wp2;(repeat (go_quiet (fail);try go_wp2));go_ret;exact ⟨kaf,by repeat (first|exact Drawn0.refl _|apply Drawn0.step)⟩
 rw [if_neg c3] at H;have z:((l0.length:Int)==(l1.length:Int))=false:=qah.mpr c3;have A:((l0.length:Int)!=(l1.length:Int))=true:=qbc.mpr c3;have B:(l0.length==l1.length)=false:=by first|simpa using c3|(simp at c3 ⊢;omega)
 obtain rfl:=qaa H;go_enter func76,ntmps76;go_wp2;repeat (go_quiet (fail);try go_wp2)
 go_ret;exact ⟨kaf,by repeat (first|exact Drawn0.refl _|apply Drawn0.step)⟩
end
section
def eqP:List S47->List S47->Bool
 | [],[]=>true
 | a::r,b::t=>decide (a.f0=b.f0)&&(decide (a.f1=b.f1)&&eqP r t)
 | _,_=>false
def eqS:List S68->List S68->Bool
 | [],[]=>true
 | a::r,b::t=>decide (a.f0=b.f0)&&(decide (a.f1=b.f1)&&eqS r t)
 | _,_=>false
def eqT:List ByteArray->List ByteArray->Bool
 | [],[]=>true
 | a::r,b::t=>decide (a.toList=b.toList)&&eqT r t
 | _,_=>false
theorem znw (n:Nat) (h:n+1<=9223372036854775807):wrap64 ((n:Int)+1)=((n+1:Nat):Int):=by unfold wrap64;omega
theorem ztn:∀ (l m:List S47),eqP l m=true->l.length=m.length
 | [],[],_=>rfl
 | a::r,b::t,h=>by
  simp only [eqP,qbj] at h;have:=ztn r t h.2.2;simp [this]
 | [],_::_,h=>by simp [eqP] at h
 | _::_,[],h=>by simp [eqP] at h
theorem api_Prefix_l0 (l m:List S47) (p:l.length<=9223372036854775807) (o:l.length=m.length):∀ (d i k:Nat),i+d=l.length->d+1<=k->api_Prefix.l0 k l m (l.length:Int) (i:Int)=some (eqP (l.drop i) (m.drop i)):=by
 intro d;induction d with
 | zero=>
  intro i k hi hk;obtain ⟨k,rfl⟩:∃ j,k=j+1:=⟨k-1,kab⟩;rw [qaz kab,qaz kab];simp only [api_Prefix.l0];rw [if_neg kab];rfl
 | succ d n=>
  intro i k hi hk;obtain ⟨k,rfl⟩:∃ j,k=j+1:=⟨k-1,kab⟩;have h1:i<l.length:=kab;have b:i<m.length:=kab;have c:zee l (i:Int)=l[i]:=by unfold zee;rw [qax,qat,qao h1];rfl
  have e:zee m (i:Int)=m[i]:=by unfold zee;rw [qax,qat,qao b];rfl
  rw [qbh h1,qbh b];simp only [api_Prefix.l0];rw [if_pos kab,if_pos kab,if_pos kab,if_pos kab,c,e,znw i kab,n (i+1) k kab kab];simp only [eqP];by_cases c1:l[i].f0=m[i].f0
  ·by_cases c2:l[i].f1=m[i].f1
   ·rw [if_neg (by simp [c1,c2])];simp [c1,c2]
   rw [if_pos (by simp [c2])];simp [c2]
  rw [if_pos (by simp [c1])];simp [c1]
theorem api_Prefix_eq (l m:List S47) (c:l.length<=9223372036854775807):api_Prefix.f (l.length+1) l m=some (eqP l m):=by
 unfold api_Prefix.f;by_cases h:l.length=m.length
 ·rw [if_pos kab];have:=api_Prefix_l0 l m c h l.length 0 (l.length+1) kab kab;exact this
 rw [if_neg kab];cases b:eqP l m with
 | false=>rfl
 | true=>exact absurd (ztn l m b) h
theorem ztm:∀ (l m:List S68),eqS l m=true->l.length=m.length
 | [],[],_=>rfl
 | a::r,b::t,h=>by
  simp only [eqS,qbj] at h;have:=ztm r t h.2.2;simp [this]
 | [],_::_,h=>by simp [eqS] at h
 | _::_,[],h=>by simp [eqS] at h
theorem api_Span_l0 (l m:List S68) (p:l.length<=9223372036854775807) (o:l.length=m.length):∀ (d i k:Nat),i+d=l.length->d+1<=k->api_Span.l0 k l m (l.length:Int) (i:Int)=some (eqS (l.drop i) (m.drop i)):=by
 intro d;induction d with
 | zero=>
  intro i k hi hk;obtain ⟨k,rfl⟩:∃ j,k=j+1:=⟨k-1,kab⟩;rw [qaz kab,qaz kab];simp only [api_Span.l0];rw [if_neg kab];rfl
 | succ d n=>
  intro i k hi hk;obtain ⟨k,rfl⟩:∃ j,k=j+1:=⟨k-1,kab⟩;have h1:i<l.length:=kab;have b:i<m.length:=kab;have c:zed l (i:Int)=l[i]:=by unfold zed;rw [qax,qat,qao h1];rfl
  have e:zed m (i:Int)=m[i]:=by unfold zed;rw [qax,qat,qao b];rfl
  rw [qbh h1,qbh b];simp only [api_Span.l0];rw [if_pos kab,if_pos kab,if_pos kab,if_pos kab,c,e,znw i kab,n (i+1) k kab kab];simp only [eqS];by_cases c1:l[i].f0=m[i].f0
  ·by_cases c2:l[i].f1=m[i].f1
   ·rw [if_neg (by simp [c1,c2])];simp [c1,c2]
   rw [if_pos (by simp [c2])];simp [c2]
  rw [if_pos (by simp [c1])];simp [c1]
theorem api_Span_eq (l m:List S68) (c:l.length<=9223372036854775807):api_Span.f (l.length+1) l m=some (eqS l m):=by
 unfold api_Span.f;by_cases h:l.length=m.length
 ·rw [if_pos kab];have:=api_Span_l0 l m c h l.length 0 (l.length+1) kab kab;exact this
 rw [if_neg kab];cases b:eqS l m with
 | false=>rfl
 | true=>exact absurd (ztm l m b) h
theorem ztl:∀ (l m:List ByteArray),eqT l m=true->l.length=m.length
 | [],[],_=>rfl
 | a::r,b::t,h=>by
  simp only [eqT,qbj] at h;have:=ztl r t h.2;simp [this]
 | [],_::_,h=>by simp [eqT] at h
 | _::_,[],h=>by simp [eqT] at h
theorem slices_Equal_string_string_l0 (l m:List ByteArray) (p:l.length<=9223372036854775807) (o:l.length=m.length):∀ (d i k:Nat),i+d=l.length->d+1<=k->slices_Equal_string_string.l0 k l m (l.length:Int) (i:Int)=some (eqT (l.drop i) (m.drop i)):=by
 intro d;induction d with
 | zero=>
  intro i k hi hk;obtain ⟨k,rfl⟩:∃ j,k=j+1:=⟨k-1,kab⟩;rw [qaz kab,qaz kab];simp only [slices_Equal_string_string.l0];rw [if_neg kab];rfl
 | succ d n=>
  intro i k hi hk;obtain ⟨k,rfl⟩:∃ j,k=j+1:=⟨k-1,kab⟩;have h1:i<l.length:=kab;have b:i<m.length:=kab;have c:rdOf ByteArray.empty l (i:Int)=l[i]:=by unfold rdOf;rw [qax,qat,qao h1];rfl
  have e:rdOf ByteArray.empty m (i:Int)=m[i]:=by unfold rdOf;rw [qax,qat,qao b];rfl
  rw [qbh h1,qbh b];simp only [slices_Equal_string_string.l0];rw [if_pos kab,if_pos kab,if_pos kab,if_pos kab,c,e,znw i kab,n (i+1) k kab kab];simp only [eqT];by_cases c1:l[i].toList=m[i].toList
  ·(first|rw [if_pos c1]|rw [if_neg (by simp [c1])]);simp [c1]
  first|rw [if_neg c1]|rw [if_pos (by simp [c1])]
  simp [c1]
theorem slices_Equal_string_string_eq (l m:List ByteArray) (c:l.length<=9223372036854775807):slices_Equal_string_string.f (l.length+1) l m=some (eqT l m):=by
 unfold slices_Equal_string_string.f;by_cases h:l.length=m.length
 ·rw [if_pos kab];have:=slices_Equal_string_string_l0 l m c h l.length 0 (l.length+1) kab kab;exact this
 rw [if_neg kab];cases b:eqT l m with
 | false=>rfl
 | true=>exact absurd (ztl l m b) h
end
section
theorem addr_clos (W0 W:World) (g q r:Nat) (s:PQ) (x:S60) (A:Option Addr) (c:Nat) (cells:Array Value) (i:Nat) (z:Inv W0) (h:PrS W0 W g s) (hr:W.heap[r]?=some (.cells #[.pointer (some ⟨g,0,none⟩)] 114 (0,0))) (u:W.heap[q]?=some (.cells cells 60 (0,0)))
  (k:cells[3]?=some (.slice A x.f3.length c)) (l:k47.C W0 A x.f3.length x.f3) (hi:i<x.f3.length) (G:x.f3.length<=140737488351232) (E:s.o.length+20<=140737488351232) :
  Calls prog 135 #[.int .i64 i,.pointer (some ⟨r,0,none⟩),.pointer (some ⟨q,0,none⟩)] W (PrE W0 W g (zvg x i s)):=by
 have m:=Kd.C_below l h.bel;obtain ⟨ad,rfl,b,d⟩:=zqh m (i:Int) kab kab;have y:zee x.f3 (i:Int)=x.f3.getD i z47:=by unfold zee;rw [qax]
 rw [y] at b d;rw [qax] at b d;have c0:W.cell? ⟨r,0,none⟩=some (.pointer (some ⟨g,0,none⟩)):=zab hr 0;have c3:W.cell? ⟨q,3,none⟩=some (.slice (some ad) x.f3.length c):=(zab u 3).trans k;have e:=zq (fun w (h:PrS W0 w g s)=>pprefix_one W0 w g s (x.f3.getD i z47).f0 (x.f3.getD i z47).f1 z h E);have j:=zq h;unfold zvg;generalize x.f3.getD i z47=p at b d e ⊢;generalize x.f3.length=n at c3 hi G;clear l m y hr u k h;go_enter func135,ntmps135;go_wp2;go_region_law (go_simp;go_at_call 136;refine (e.o _ (by first|exact j.o|exact j.o.drew)).mono ?_;rintro e' w' ⟨rfl,B,D⟩);all_goals (first|go_end0|(refine qaf (qbb rfl _ _ _) rfl ?_))
 all_goals exact ⟨rfl,B,D.undrew⟩
theorem ports_clos (W0 W:World) (g q r:Nat) (s:PQ) (x:S60) (A:Option Addr) (c:Nat) (cells:Array Value) (i:Nat) (D:Inv W0) (h:PrS W0 W g s) (hr:W.heap[r]?=some (.cells #[.pointer (some ⟨g,0,none⟩)] 114 (0,0))) (y:W.heap[q]?=some (.cells cells 60 (0,0)))
  (l:cells[4]?=some (.slice A x.f4.length c)) (m:k68.C W0 A x.f4.length x.f4) (hi:i<x.f4.length) (J:x.f4.length<=140737488351232) (B:∀ p∈x.f4,(-9223372036854775808<=p.f0/\p.f0<=9223372036854775807)/\(-9223372036854775808<=p.f1/\p.f1<=9223372036854775807)) (I:s.o.length+80<=140737488351232) :
  Calls prog 137 #[.int .i64 i,.pointer (some ⟨r,0,none⟩),.pointer (some ⟨q,0,none⟩)] W (PrE W0 W g (znf x i s)):=by
 have u:=Kd.C_below m h.bel;obtain ⟨ad,rfl,d,e⟩:=znq u (i:Int) kab kab;have z:zed x.f4 (i:Int)=x.f4.getD i z68:=by unfold zed;rw [qax]
 rw [z] at d e;rw [qax] at d e;have c0:W.cell? ⟨r,0,none⟩=some (.pointer (some ⟨g,0,none⟩)):=zab hr 0;have c3:W.cell? ⟨q,4,none⟩=some (.slice (some ad) x.f4.length c):=(zab y 4).trans l;have b:=B (x.f4.getD i z68) (by rw [qat,qao hi];exact List.getElem_mem _);have j:=zq (fun w (h:PrS W0 w g s)=>pports_one W0 w g s (x.f4.getD i z68).f0 (x.f4.getD i z68).f1 D h I b.1.1 b.1.2 b.2.1 b.2.2);have k:=zq h;unfold znf;clear B b;generalize x.f4.getD i z68=p at d e j ⊢;generalize x.f4.length=n at c3 hi J;clear m u z hr y l h;go_enter func137,ntmps137;go_wp2;go_region_law (go_simp;go_at_call 138;refine (j.o _ (by first|exact k.o|exact k.o.drew)).mono ?_;rintro e' w' ⟨rfl,E,G⟩);all_goals (first|go_end0|(refine qaf (qbb rfl _ _ _) rfl ?_))
 all_goals exact ⟨rfl,E,G.undrew⟩
end
section
theorem zne (lo hi:Int) (s:PQ) (l0 : -9223372036854775808<=lo) (l1:lo<=9223372036854775807) (b : -9223372036854775808<=hi) (h1:hi<=9223372036854775807):(zpj lo hi s).o.length<=s.o.length+43:=by
 have c:=Lib.itoa_length_le lo l0 l1;have d:=Lib.itoa_length_le hi b h1;unfold zpj;split
 ·rw [zcu,zbz];omega
 rw [zcu,zcu,zbz,qbe];omega
theorem sum_len (l:List ByteArray):10*l.length<=(l.map fun t=>t.size+10).sum:=by
 induction l with
 | nil=>simp
 | cons a l b=>simp only [qcf,List.sum_cons,qbe];omega
theorem zbj {w:World} {q:Nat} {v0 v1 v2 v3 v4 v5 b c:Value} (h:w.heap[q]?=some (.cells #[v0,v1,v2,v3,v4,v5,b,c] 60 (0,0))) :
  w.cell? ⟨q,0,none⟩=some v0/\w.cell? ⟨q,1,none⟩=some v1/\w.cell? ⟨q,2,none⟩=some v2/\w.cell? ⟨q,3,none⟩=some v3/\w.cell? ⟨q,4,none⟩=some v4/\w.cell? ⟨q,5,none⟩=some v5/\w.cell? ⟨q,6,none⟩=some b/\w.cell? ⟨q,7,none⟩=some c:=
 ⟨zab h 0,zab h 1,zab h 2,zab h 3,zab h 4,zab h 5,zab h 6,zab h 7⟩
def zvo (l:List S68):Prop:=∀ p∈l,(-9223372036854775808<=p.f0/\p.f0<=9223372036854775807)/\(-9223372036854775808<=p.f1/\p.f1<=9223372036854775807)
theorem atom_port (W0 W:World) (g:Nat) (s:PQ) (f1 f2:ByteArray) (f3:List S47) (f4:List S68) (f5:List ByteArray) (f6:List S60) (f7:Int) (v:Value) (M:Inv W0) (hA:zes W0 ⟨8,f1,f2,f3,f4,f5,f6,f7⟩ v) (h:PrS W0 W g s) (D:zvo f4)
  (hl:s.o.length+1000+30*f3.length+90*f4.length+(f5.map fun t=>t.size+10).sum<=140737488351232) :
  Calls prog 107 #[.pointer (some ⟨g,0,none⟩),v] W (PrE W0 W g (zml ⟨8,f1,f2,f3,f4,f5,f6,f7⟩ s)):=by
 have a8:f5.length<=140737488351232:=by have:=sum_len f5;omega
 obtain ⟨cs,u,rfl⟩:=hA;have O:=zci u;simp only at O;obtain ⟨d,c3,c,c4,A5,c5,A6,c6,rfl,l3,g3,l4,g4,l5,g5,l6,g6⟩:=O;have E:=zq (show zes W0 _ _ from ⟨_,u,rfl⟩);clear u;have a7:=h.lt;have HX:=zq ((h.alloc (.cells #[.pointer (some ⟨g,0,none⟩)] 114)).alloc (.cells #[.int .i64 8,.string f1,.string f2,.slice d f3.length c3,.slice c f4.length c4,.slice A5 f5.length c5,.slice A6 f6.length c6,.int .i64 f7] 60));have HT:=zq (((Stp.refl W g).alloc a7 (.cells #[.pointer (some ⟨g,0,none⟩)] 114)).alloc kax (.cells #[.int .i64 8,.string f1,.string f2,.slice d f3.length c3,.slice c f4.length c4,.slice A5 f5.length c5,.slice A6 f6.length c6,.int .i64 f7] 60));have r:=zq (zaf (qab W (.cells #[.pointer (some ⟨g,0,none⟩)] 114)) (.cells #[.int .i64 8,.string f1,.string f2,.slice d f3.length c3,.slice c f4.length c4,.slice A5 f5.length c5,.slice A6 f6.length c6,.int .i64 f7] 60));have q:=zq (show ((W.alloc (.cells #[.pointer (some ⟨g,0,none⟩)] 114)).alloc (.cells #[.int .i64 8,.string f1,.string f2,.slice d f3.length c3,.slice c f4.length c4,.slice A5 f5.length c5,.slice A6 f6.length c6,.int .i64 f7] 60)).heap[W.heap.size+1]?=some (.cells #[.int .i64 8,.string f1,.string f2,.slice d f3.length c3,.slice c f4.length c4,.slice A5 f5.length c5,.slice A6 f6.length c6,.int .i64 f7] 60 (0,0)) from by have:=qab (W.alloc (.cells #[.pointer (some ⟨g,0,none⟩)] 114)) (.cells #[.int .i64 8,.string f1,.string f2,.slice d f3.length c3,.slice c f4.length c4,.slice A5 f5.length c5,.slice A6 f6.length c6,.int .i64 f7] 60);rw [qae] at this;exact this);have HB:=zq (fun w (h:Below W0.heap.size W0 w)=>zfy w _ _ (E.o.below h) false false false true false false);have p:=zq (fun w (h:PrS W0 w g s)=>zbu W0 w g s (zdd ⟨8,f1,f2,f3,f4,f5,f6,f7⟩ false false false true false false) h);have X:zml ⟨8,f1,f2,f3,f4,f5,f6,f7⟩ s=zoh ((⟨#[112,111,114,116]⟩:ByteArray).data.toList) f4.length (znf ⟨8,f1,f2,f3,f4,f5,f6,f7⟩) (s.must (zdd ⟨8,f1,f2,f3,f4,f5,f6,f7⟩ false false false true false false)):=rfl;rw [X];have G:=zq (fun w (h:PrS W0 w g (s.must (zdd ⟨8,f1,f2,f3,f4,f5,f6,f7⟩ false false false true false false))) (hr:w.heap[W.heap.size]?=some (.cells #[.pointer (some ⟨g,0,none⟩)] 114 (0,0))) (hq:w.heap[W.heap.size+1]?=some (.cells #[.int .i64 8,.string f1,.string f2,.slice d f3.length c3,.slice c f4.length c4,.slice A5 f5.length c5,.slice A6 f6.length c6,.int .i64 f7] 60 (0,0)))=>
  plist_calls W0 w g _ ⟨#[112,111,114,116]⟩ f4.length 137 (.pointer (some ⟨W.heap.size,0,none⟩)) (.pointer (some ⟨W.heap.size+1,0,none⟩)) (znf ⟨8,f1,f2,f3,f4,f5,f6,f7⟩) (fun _=>80) (fun i=>(f4.length-i)*81)
   (fun w=>w.heap[W.heap.size]?=some (.cells #[.pointer (some ⟨g,0,none⟩)] 114 (0,0))/\w.heap[W.heap.size+1]?=some (.cells #[.int .i64 8,.string f1,.string f2,.slice d f3.length c3,.slice c f4.length c4,.slice A5 f5.length c5,.slice A6 f6.length c6,.int .i64 f7] 60 (0,0)))
   (fun i w=>by kernel_rfl)
   (fun w w' s hs hi ht=>⟨ht.keep hs hi.1 kad kad,ht.keep hs hi.2 kad kad⟩)
   (fun i w s' m hs hi hb=>ports_clos W0 w g _ _ s' _ c c4 _ i M hs hi.1 hi.2 rfl g4 m (by show f4.length<=_;omega) D hb)
   (fun i s m=>by have n:=D (f4.getD i z68) (by rw [qat,qao m];exact List.getElem_mem _);exact qas (zne _ _ _ n.1.1 n.1.2 n.2.1 n.2.2) kab) (fun i m=>by omega) kab h ⟨hr,hq⟩ (by rw [zbz];show _+4+10+_<=_;first|omega|(simp only [List.drop_zero];omega)))
 generalize zdd ⟨8,f1,f2,f3,f4,f5,f6,f7⟩ false false false true false false=b at HB p G ⊢;clear h X hl D g3 g4 g5 g6 M E;go_enter func107,ntmps107;go_wp2;go_region_law (first
  | (go_simp;go_at_call 104;refine (HB.o _ (by first|exact HX.o.bel|exact HX.o.drew.bel)).mono ?_;rintro e1 w1 ⟨rfl,e⟩;have k:Below ((W.alloc (.cells #[.pointer (some ⟨g,0,none⟩)] 114)).alloc (.cells #[.int .i64 8,.string f1,.string f2,.slice d f3.length c3,.slice c f4.length c4,.slice A5 f5.length c5,.slice A6 f6.length c6,.int .i64 f7] 60)).heap.size ((W.alloc (.cells #[.pointer (some ⟨g,0,none⟩)] 114)).alloc (.cells #[.int .i64 8,.string f1,.string f2,.slice d f3.length c3,.slice c f4.length c4,.slice A5 f5.length c5,.slice A6 f6.length c6,.int .i64 f7] 60)) w1:=⟨e.os,e.tape,e.output,e.size,e.block⟩;have j:=zq (HX.o.below k);have L:=zq (HT.o.below HX.o.lt k);have A:=(k.block _ (zam r.o)).trans r.o;have y:=(k.block _ (zam q.o)).trans q.o;have J:=zq A;have I:=zq y;have m0:=zab A 0;obtain ⟨q0,q1,q2,q3,q4,q5,q6,q7⟩:=zbj y;clear e k A y HX r q)
  | (go_simp;go_at_call 65;refine (p.o _ (by first|exact j.o|exact j.o.drew)).mono ?_;rintro e2 w2 ⟨rfl,U,x⟩;have l:=(show Stp w1 w2 g from by first|exact x|exact x.undrew);have B:=l.keep j.o J.o kad kad;have z:=l.keep j.o I.o kad kad;have ad:=zq U;have af:=zq (L.o.trans l);have Z:=zq B;have Y:=zq z;have n0:=zab B 0;obtain ⟨y0,y1,y2,y3,y4,y5,y6,y7⟩:=zbj z;clear U x l B z j L J I p HB))
 all_goals go_wp2_with (go_at_call 134;refine (G.o _ ad.o Z.o Y.o).mono ?_;rintro e3 w3 ⟨rfl,a1,a6⟩)
 all_goals (first|go_end0|(refine qaf (qbb rfl _ _ _) rfl ?_))
 all_goals exact ⟨rfl,a1,af.o.trans a6⟩
theorem atom_none (W0 W:World) (g:Nat) (s:PQ) (x:S60) (v:Value) (p:zes W0 x v) (h:PrS W0 W g s) (l:¬x.f0=7) (m:¬x.f0=8) (n:¬x.f0=9) (i:¬x.f0=10) (j:¬x.f0=11) (k:¬x.f0=12) :
  Calls prog 107 #[.pointer (some ⟨g,0,none⟩),v] W (PrE W0 W g (zml x s)):=by
 have c:zml x s=s.must false:=by unfold zml;rw [if_neg l,if_neg m,if_neg n,if_neg i,if_neg j,if_neg k]
 rw [c];obtain ⟨cs,b,rfl⟩:=p;obtain ⟨y,c3,z,c4,A5,c5,A6,c6,rfl,-⟩:=zci b;have u:=h.lt;have HX:=zq (fun o o2=>(h.alloc o).alloc o2);have e:=zq (fun o o2=>((Stp.refl W g).alloc u o).alloc kax o2);have d:=zq (fun w (h:PrS W0 w g s)=>zbu W0 w g s false h);clear h b c;go_enter func107,ntmps107;go_wp2_with (go_at_call 65;refine (d.o _ (HX.o _ _)).mono ?_;rintro A w1 ⟨rfl,q,r⟩);first|go_end0|(refine qaf (qbb rfl _ _ _) rfl ?_)
 exact ⟨rfl,q,(e.o _ _).trans r⟩
def zvh (x:S60):Prop:=(x.f0<7\/x.f0=8)/\zvo x.f4
theorem atom_calls (W0 W:World) (g:Nat) (s:PQ) (x:S60) (v:Value) (e:Inv W0) (d:zes W0 x v) (h:PrS W0 W g s) (b:zvh x)
  (i:s.o.length+1000+30*x.f3.length+90*x.f4.length+(x.f5.map fun t=>t.size+10).sum<=140737488351232) :
  Calls prog 107 #[.pointer (some ⟨g,0,none⟩),v] W (PrE W0 W g (zml x s)):=by
 obtain ⟨f0,f1,f2,f3,f4,f5,f6,f7⟩:=x;obtain ⟨hk,b⟩:=b;simp only at hk;by_cases c:f0=8
 ·subst c;exact atom_port W0 W g s f1 f2 f3 f4 f5 f6 f7 v e d h b i
 exact atom_none W0 W g s _ v d h (by show ¬f0=7;omega) c (by show ¬f0=9;omega) (by show ¬f0=10;omega) (by show ¬f0=11;omega) (by show ¬f0=12;omega)
end
section
def Wide:Nat->S60->Prop
  | 0,_=>True
  | k+1,x=>zvh x/\∀ y∈x.f6,Wide k y
def zms (W0:World) (g k:Nat):Prop:=∀ (x:S60) (v:Value) (W:World) (s:PQ),zes W0 x v->PrS W0 W g s->Wide k x->s.o.length+zdc k x<=140737488351232 ->
  Calls prog 70 #[.pointer (some ⟨g,0,none⟩),v,.int .i64 (17-(k:Int))] W (PrE W0 W g (zbq k x s))
theorem zlt {f:S60->PQ->PQ} {c:Nat} {least:Int} {x:S60} (hf:∀ s,(f x s).o.length<=s.o.length+c) (s:PQ):(zie f least x s).o.length<=s.o.length+c+2:=by
  unfold zie;split
  · omega
  split
  · have:=hf s;omega
  have:=hf (s.signs [40]);rw [zcu] at this ⊢;show _+1<=_;have h1:([40]:List UInt8).length=1:=rfl;omega
theorem zng {f:S60->PQ->PQ} {c:S60->Nat} {word:List UInt8} {least:Int} (b:word.length<=6):∀ (l:List S60) (first:Bool) (s:PQ),(∀ x∈l,∀ s,(f x s).o.length<=s.o.length+c x) ->
    (zjf f word least l first s).o.length<=s.o.length+(l.map fun y=>c y+10).sum
  | [],_,s,_=>by simp [zjf]
  | x::r,first,s,h=>by
    have h1:=zng (least:=least) b r false (zie f least x (if first=true then s else s.one word)) (fun y d=>h y (qch _ d));have e:=zlt (least:=least) (h x List.mem_cons_self) (if first=true then s else s.one word);have i:(if first=true then s else s.one word).o.length<=s.o.length+7:=by
      split
      · omega
      have:=zdz word s;omega
    rw [qcf,List.sum_cons];show (zjf f word least r false _).o.length<=_;omega
theorem zhu (t:ByteArray) (s:PQ):(zbp t s).o.length<=s.o.length+t.size+1:=by
  have:=zdz (bl t) (s.must (ziv t));rw [zbm,zbz] at this;exact this
theorem zpx {one:Nat->PQ->PQ} {cs R:Nat->Nat} {n:Nat} (c:∀ i s,i<n->(one i s).o.length<=s.o.length+cs i) (b:∀ i,i<n->cs i+1+R (i+1)<=R i):∀ (m i:Nat) (s:PQ),i+m=n->(zom one m i s).o.length<=s.o.length+R i
  | 0,i,s,_=>by simp [zom]
  | m+1,i,s,h=>by
    unfold zom;split
    · omega
    have h1:=zpx c b m (i+1) (one i (if i=0 then s else s.signs [44])) kab;have d:=c i (if i=0 then s else s.signs [44]) kab;have e:=b i kab;have j:(if i=0 then s else s.signs [44]).o.length<=s.o.length+1:=by
      split
      · omega
      rw [zcu];exact qad _
    omega
theorem listQ_len {one:Nat->PQ->PQ} {cs R:Nat->Nat} {n:Nat} (word:List UInt8) (d:∀ i s,i<n->(one i s).o.length<=s.o.length+cs i) (c:∀ i,i<n->cs i+1+R (i+1)<=R i) (s:PQ):(zoh word n one s).o.length<=s.o.length+word.length+6+R 0:=by
  unfold zoh;rw [zcu];have h1:=zpx d c n 0 ((((s.must (decide (1<=n)&&decide (n<=32))).one word).one [105,110]).signs [123]) kab;have l:=zdz [105,110] ((s.must (decide (1<=n)&&decide (n<=32))).one word);have b:=zdz word (s.must (decide (1<=n)&&decide (n<=32)));rw [zcu] at h1;rw [zbz] at b;have e:([105,110]:List UInt8).length=2:=rfl;have j:([123]:List UInt8).length=1:=rfl;have k:([125]:List UInt8).length=1:=rfl;omega
theorem atomQ_len (x:S60) (s:PQ) (c:zvh x):(zml x s).o.length<=s.o.length+900+30*x.f3.length+90*x.f4.length+(x.f5.map fun t=>t.size+10).sum:=by
  have e:zvk.length=4:=rfl;obtain ⟨hk,c⟩:=c;unfold zml;rw [if_neg kab];split
  · have:=listQ_len (one:=znf x) (cs:=fun _=>80) (R:=fun i=>(x.f4.length-i)*81) (n:=x.f4.length) zvk (fun i s d=>by
      have b:=c (x.f4.getD i z68) (by rw [qat,qao d];exact List.getElem_mem _);exact qas (zne _ _ _ b.1.1 b.1.2 b.2.1 b.2.2) kab) (fun i d=>by omega) (s.must (zdd x false false false true false false))
    rw [zbz] at this;simp only [Nat.sub_zero] at this;omega
  rw [if_neg kab,if_neg kab,if_neg kab,if_neg kab,zbz];omega
theorem zjs {α:Type} (f:α->Nat):∀ (l:List α) (x:α),x∈l->f x<=(l.map f).sum
  | a::l,x,h=>by
    rw [qcf,List.sum_cons];rcases qcj.1 h with rfl|h
    · omega
    have:=zjs f l x h;omega
theorem zgp:∀ (k:Nat) (x:S60) (s:PQ),Wide k x->(zbq k x s).o.length<=s.o.length+zdc k x
  | 0,x,s,_=>by simp [zbq,zbz]
  | k+1,x,s,i=>by
    have r:zuf.length=4:=rfl;have u:zrd.length=5:=rfl;have w:wNot.length=3:=rfl;have z:wAnd.length=3:=rfl;have A:wOr.length=2:=rfl;have j:∀ y∈x.f6,∀ s,(zbq k y s).o.length<=s.o.length+zdc k y:=fun y n s=>zgp k y s (i.2 y n);have e:∀ (word:List UInt8) (least:Int) (s:PQ),word.length<=6->(rowQ (zbq k) word least x s).o.length<=s.o.length+(x.f6.map fun y=>zdc k y+10).sum:=fun word least s m=>by
      unfold rowQ;have:=zng (f:=zbq k) (c:=zdc k) (word:=word) (least:=least) m x.f6 true (s.must (zdd x false false false false false true&&(decide (2<=x.f6.length)&&decide (x.f6.length<=32)))) j;rwa [zbz] at this
    unfold zbq zdc;split
    · omega
    split
    · have:=zdz zuf (s.must (zdd x false false false false false false));rw [zbz] at this;omega
    split
    · have:=zdz zrd (s.must (zdd x false false false false false false));rw [zbz] at this;omega
    split
    · have:=zhu x.f1 (s.must (zdd x true false false false false false));rw [zbz] at this;omega
    split
    · split
      · rw [zbz];omega
      rename_i l;have h1:=zdz wNot (s.must (zdd x false false false false false true&&decide (x.f6.length=1)));rw [zbz] at h1;have B:x.f6.length=1:=by
        by_cases b:x.f6.length=1
        · exact b
        exact absurd (by simp [PQ.must,b]) l
      have d:x.f6.getD 0 z60∈x.f6:=by
        rw [qat,qao kab];exact List.getElem_mem _
      have p:=zlt (least:=2) (j _ d) ((s.must (zdd x false false false false false true&&decide (x.f6.length=1))).one wNot);have q:=zjs (fun y=>zdc k y+10) x.f6 _ d;omega
    split
    · have:=e wAnd 2 s kab;omega
    split
    · have:=e wOr 1 s kab;omega
    have:=atomQ_len x s i.1;omega
section
variable (W0:World) (g:Nat)
theorem znh (k:Nat) (p:zms W0 g k) (x:S60) (v:Value) (W:World) (s:PQ) (least:Int) (hA:zes W0 x v) (h:PrS W0 W g s) (m:Wide k x) (O:s.o.length+zdc k x+2<=140737488351232) :
    Calls prog 105 #[.pointer (some ⟨g,0,none⟩),v,.int .i64 least,.int .i64 (17-(k:Int))] W (PrE W0 W g (zie (zbq k) least x s)):=by
  have r:=zq hA;obtain ⟨cs,u,rfl⟩:=hA;obtain ⟨U,c3,X,c4,A5,c5,A6,c6,rfl,-⟩:=zci u;have q:=r;have aH:=h.lt;have HX:=zq (h.alloc (.cells #[.int .i64 x.f0,.string x.f1,.string x.f2,.slice U x.f3.length c3,.slice X x.f4.length c4,.slice A5 x.f5.length c5,.slice A6 x.f6.length c6,.int .i64 x.f7] 60));have J:=zq ((Stp.refl W g).alloc aH (.cells #[.int .i64 x.f0,.string x.f1,.string x.f2,.slice U x.f3.length c3,.slice X x.f4.length c4,.slice A5 x.f5.length c5,.slice A6 x.f6.length c6,.int .i64 x.f7] 60));have G:=zq (qab W (.cells #[.int .i64 x.f0,.string x.f1,.string x.f2,.slice U x.f3.length c3,.slice X x.f4.length c4,.slice A5 x.f5.length c5,.slice A6 x.f6.length c6,.int .i64 x.f7] 60));have l:=zq (fun w (h:PrS W0 w g s)=>zdi W0 w g s h kab);obtain ⟨A,c,a0,a1,a2,f0,f1,f2,-,-⟩:=HX.o.facts;have B:=zgp k x;unfold zie;by_cases d:s.bad=true
  · rw [if_pos (by rw [d];rfl)];rw [d] at a2;clear h u O B r p m d;go_enter func105,ntmps105;go_wp2;(first|go_end0|(refine qaf (qbb rfl _ _ _) rfl ?_));exact ⟨rfl,HX.o,J.o⟩
  have d:s.bad=false:=by simpa using d
  rw [d] at a2 ⊢;by_cases j:zeq s=true
  · rw [if_pos (by rw [j];rfl)];have l:=zq (show ∀ w,PrS W0 w g s->Calls prog 66 #[.pointer (some ⟨g,0,none⟩)] w fun e w'=>e = .returned (.bool true)/\w'=w from fun w h=>by have:=l.o w h;rwa [show decide (8000<s.o.length)=true from j] at this);clear h u O B r p m d j;go_enter func105,ntmps105;go_wp2_with (go_at_call 66;refine (l.o _ HX.o).mono ?_;rintro L w1 ⟨rfl,rfl⟩);(first|go_end0|(refine qaf (qbb rfl _ _ _) rfl ?_));exact ⟨rfl,HX.o,J.o⟩
  have j:zeq s=false:=by simpa using j
  rw [if_neg (by rw [j];decide)];have l:=zq (show ∀ w,PrS W0 w g s->Calls prog 66 #[.pointer (some ⟨g,0,none⟩)] w fun e w'=>e = .returned (.bool false)/\w'=w from fun w h=>by have:=l.o w h;rwa [show decide (8000<s.o.length)=false from j] at this);have E:=zq (fun w (h:Below W0.heap.size W0 w)=>binds_calls w x _ (q.o.below h));by_cases z:least<=zkp x.f0
  · rw [if_pos z];have n:=zq (fun w (h:PrS W0 w g s)=>p x _ w s q.o h m kab);generalize zbq k x s=sf at n ⊢;generalize zkp x.f0=b at E z;clear h u O B r p m d j q;go_enter func105,ntmps105;go_wp2_with (first
      | (go_at_call 66;refine (l.o _ HX.o).mono ?_;rintro L w1 ⟨rfl,rfl⟩)
      | (go_at_call 133;refine (E.o _ HX.o.bel).mono ?_;rintro L w1 ⟨rfl,i⟩;have I:=zq (HX.o.below i);have ad:=zq (J.o.below HX.o.lt i);have D:=(i.block _ (zam G.o)).trans G.o;obtain ⟨q0,q1,q2,q3,q4,q5,q6,q7⟩:=zbj D;clear i D a0 a1 a2)
      | (go_at_call 70;refine (n.o _ I.o).mono ?_;rintro e2 w2 ⟨rfl,M,y⟩))
    (first|go_end0|(refine qaf (qbb rfl _ _ _) rfl ?_));exact ⟨rfl,M,ad.o.trans y⟩
  rw [if_neg z];have z:zkp x.f0<least:=kab;have aE:([40]:List UInt8).length=1:=rfl;have Y:=zq (fun w (h:PrS W0 w g s)=>show Calls prog 69 #[.pointer (some ⟨g,0,none⟩),.string ⟨#[40]⟩] w (PrE W0 w g (s.signs [40])) from zcq W0 w g s ⟨#[40]⟩ h (by show _+1<=_;omega));have n:=zq (fun w (h:PrS W0 w g (s.signs [40]))=>p x _ w _ q.o h m (by rw [zcu];omega));have Z:=zq (fun w (h:PrS W0 w g (zbq k x (s.signs [40])))=>show Calls prog 69 #[.pointer (some ⟨g,0,none⟩),.string ⟨#[41]⟩] w (PrE W0 w g ((zbq k x (s.signs [40])).signs [41])) from zcq W0 w g _ ⟨#[41]⟩ h (by have:=B (s.signs [40]) m;rw [zcu] at this;show _+1<=_;omega));generalize (zbq k x (s.signs [40])).signs [41]=sf at Z ⊢;generalize zbq k x (s.signs [40])=s2 at n Z;generalize s.signs [40]=s1 at Y n;generalize zkp x.f0=b at E z;clear h u O B r p m d j q aE;go_enter func105,ntmps105;go_wp2_with (first
    | (go_at_call 66;refine (l.o _ HX.o).mono ?_;rintro L w1 ⟨rfl,rfl⟩)
    | (go_at_call 133;refine (E.o _ HX.o.bel).mono ?_;rintro L w1 ⟨rfl,i⟩;have I:=zq (HX.o.below i);have ad:=zq (J.o.below HX.o.lt i);have D:=(i.block _ (zam G.o)).trans G.o;have a8:=zq D;clear i D a0 a1 a2)
    | (go_at_call 69;refine (Y.o _ I.o).mono ?_;rintro e2 w2 ⟨rfl,M,y⟩;have a7:=y.keep I.o a8.o kad kad;have aA:=zq M;have aC:=zq (ad.o.trans y);obtain ⟨q0,q1,q2,q3,q4,q5,q6,q7⟩:=zbj a7;clear M y a7 Y)
    | (go_at_call 70;refine (n.o _ aA.o).mono ?_;rintro e3 w3 ⟨rfl,af,a6⟩;have aB:=zq af;have aD:=zq (aC.o.trans a6);clear af a6)
    | (go_at_call 69;refine (Z.o _ aB.o).mono ?_;rintro e4 w4 ⟨rfl,aF,aG⟩))
  first|go_end0|(refine qaf (qbb rfl _ _ _) rfl ?_)
  exact ⟨rfl,aF,aD.o.trans aG⟩
theorem znd (k:Nat) (hk:k<=16) (IH:zms W0 g k) (x:S60) (v:Value) (W:World) (s:PQ) (word:ByteArray) (least:Int) (hA:zes W0 x v) (h:PrS W0 W g s) (hw:∀ y∈x.f6,Wide k y) (b7:word.size<=3) (b6:x.f6.length<=140737488351232) (A:s.o.length+(x.f6.map fun y=>zdc k y+10).sum+20<=140737488351232) :
    Calls prog 106 #[.pointer (some ⟨g,0,none⟩),v,.string word,.int .i64 least,.int .i64 (16-(k:Int))] W (PrE W0 W g (rowQ (zbq k) word.data.toList least x s)):=by
  have HA:=zq hA;obtain ⟨cs,hK,rfl⟩:=hA;obtain ⟨A3,c3,A4,c4,A5,c5,A6,c6,rfl,l3,g3,l4,g4,l5,g5,l6,g6⟩:=zci hK;have aZ:=h.lt;have HX:=zq (h.alloc (.cells #[.int .i64 x.f0,.string x.f1,.string x.f2,.slice A3 x.f3.length c3,.slice A4 x.f4.length c4,.slice A5 x.f5.length c5,.slice A6 x.f6.length c6,.int .i64 x.f7] 60));have HT:=zq ((Stp.refl W g).alloc aZ (.cells #[.int .i64 x.f0,.string x.f1,.string x.f2,.slice A3 x.f3.length c3,.slice A4 x.f4.length c4,.slice A5 x.f5.length c5,.slice A6 x.f6.length c6,.int .i64 x.f7] 60));have HQ:=zq (qab W (.cells #[.int .i64 x.f0,.string x.f1,.string x.f2,.slice A3 x.f3.length c3,.slice A4 x.f4.length c4,.slice A5 x.f5.length c5,.slice A6 x.f6.length c6,.int .i64 x.f7] 60));have bd:=zq g6;have HB:=zq (fun w (h:Below W0.heap.size W0 w)=>zfy w x _ (HA.o.below h) false false false false false true);have aQ:=zq (fun w b (h:PrS W0 w g s)=>zbu W0 w g s b h);have aR:Zq (∀ y v w s,y∈x.f6->zes W0 y v->PrS W0 w g s->s.o.length+zdc k y+2<=140737488351232->Calls prog 105 #[.pointer (some ⟨g,0,none⟩),v,.int .i64 least,.int .i64 (16-(k:Int)+1)] w (PrE W0 w g (zie (zbq k) least y s))):=
    ⟨fun y v w s hy h1 j A=>by have:=znh W0 g k IH y v w s least h1 j (hw y hy) A;rwa [show (17:Int)-(k:Int)=16-(k:Int)+1 by omega] at this⟩
  have bv:=zq (fun w s (h:PrS W0 w g s) A=>zdj W0 w g s word h A);have aP:=zq (fun y (hy:y∈x.f6) s=>zlt (f:=zbq k) (c:=zdc k y) (least:=least) (fun s=>zgp k y s (hw y hy)) s);generalize a7:rowQ (zbq k) word.data.toList least x s=sf;unfold rowQ at a7;have a1:∃ b,(zdd x false false false false false true&&(decide (2<=x.f6.length)&&decide (x.f6.length<=32)))=b /\
      ((b=false/\zdd x false false false false false true=false/\True/\True)\/(b=false/\zdd x false false false false false true=true/\x.f6.length<2/\True)\/(b=false/\zdd x false false false false false true=true/\2<=x.f6.length/\decide ((x.f6.length:Int)<=32)=false)\/(b=true/\zdd x false false false false false true=true/\2<=x.f6.length/\decide ((x.f6.length:Int)<=32)=true)):=by
    refine ⟨_,rfl,?_⟩;cases hb:zdd x false false false false false true with
    | false=>exact .inl ⟨rfl,rfl,trivial,trivial⟩
    | true=>
      by_cases j:2<=x.f6.length
      · by_cases h3:x.f6.length<=32
        · exact .inr (.inr (.inr ⟨by simp [j,h3],rfl,j,kbl⟩))
        exact .inr (.inr (.inl ⟨by simp [h3],rfl,j,kbl⟩))
      exact .inr (.inl ⟨by simp [j],rfl,kab,trivial⟩)
  obtain ⟨b,hb,a1⟩:=a1;rw [hb] at a7;clear hb;have aU:=zq a7;have u:=zq A;have b4:Zq (k<=16):=⟨hk⟩;have b2:(0:Int)<=16-(k:Int):=kab;have b3:16-(k:Int)<=16:=kab;have b5:Zq ((16:Int)-(k:Int)+1=17-(k:Int)):=⟨kab⟩;have bx:Zq (∀ i,i<x.f6.length->x.f6.getD i z60∈x.f6):=⟨fun i hi=>by rw [qat,qao hi];exact List.getElem_mem _⟩;clear h hK A hw a7 hk g3 g4 g5 g6 l3 l4 l5 aZ;generalize zdd x false false false false false true=bb at HB a1;rcases a1 with ⟨rfl,rfl,h1,j⟩|⟨rfl,rfl,h1,j⟩|⟨rfl,rfl,h1,j⟩|⟨rfl,rfl,h1,j⟩;all_goals
    go_enter func106,ntmps106;go_wp2_with (first
      | (go_at_call 104;refine (HB.o _ HX.o.bel).mono ?_;rintro e1 w1 ⟨rfl,af⟩;have aA:=zq (HX.o.below af);have aV:=zq (HT.o.below HX.o.lt af);have aK:=(af.block _ (zam HQ.o)).trans HQ.o;have aS:=zq aK;obtain ⟨q0,q1,q2,q3,q4,q5,q6,q7⟩:=zbj aK;clear af aK)
      | (go_at_call 65;refine (aQ.o _ _ aA.o).mono ?_;rintro e2 w2 ⟨rfl,aX,aF⟩;have aL:=aF.keep aA.o aS.o kad kad;have aT:=zq aX;have aW:=zq (aV.o.trans aF);have bk:=zq aL;obtain ⟨y0,y1,y2,y3,y4,y5,y6,y7⟩:=zbj aL;clear aX aF aL q0 q1 q2 q3 q4 q5 q6 q7))
    clear y0 y1 y2 y3 y4 y5 y6 y7;have H1:=zq h1;clear h1 j HB aQ HX HT HQ aA aV aS
    go_loopw [31] (fun i wr=>∃ d:Nat,∃ e,d<=x.f6.length/\i = .int .i64 d/\Zq (PrS W0 wr g e)/\Zq (Stp W wr g)/\Zq (zjf (zbq k) word.data.toList least (x.f6.drop d) (decide (d=0)) e=sf)/\Zq (e.o.length+((x.f6.drop d).map fun y=>zdc k y+10).sum+10<=140737488351232)) (fun i _=>x.f6.length-(intOf i).toNat)
    case atStart=>exact ⟨0,_,qbx _,rfl,aT,aW,aU,⟨by have:=u.o;rw [zbz];show _+(x.f6.map _).sum+10<=_;omega⟩⟩
    case round=>
      clear aT aW bk aU u;obtain ⟨d,e,b1,rfl,r,aD,l,a8⟩:=hrel;by_cases aJ:d<x.f6.length
      · obtain ⟨ad,B3,d3,n,d4,p,d5,q,d6,rfl,G,I,J,L,M,O,U,X,m3,B,m4,z,m5,e5,m6,e6⟩:=zkr bd.o (d:Int) kab kab;have bc:zbf x.f6 (d:Int)=x.f6.getD d z60:=(by unfold zbf;rw [qax]);rw [bc] at G I J L M O U X m3 B m4 z m5 e5 m6 e6;rw [qax] at G I J L M O U X;have aN:=bx.o d aJ;have a6:=l.o;have aI:x.f6.drop d=x.f6.getD d z60::x.f6.drop (d+1):=by
          rw [qbh aJ,qat,qao aJ];rfl
        rw [aI] at a6;have aH:=a8.o;rw [aI,qcf,List.sum_cons] at aH;have m:=zq aH;clear bc aI aH a8 l;generalize x.f6.getD d z60=y at G I J L M O U X m3 B m4 z m5 e5 m6 e6 aN a6 m;have ag:=r.o.bel;have G:=zag ag G;have I:=zag ag I;have J:=zag ag J;have L:=zag ag L;have M:=zag ag M;have O:=zag ag O;have U:=zag ag U;have X:=zag ag X;have aO:=zq (show zes W0 y (.agg #[.int .i64 y.f0,.string y.f1,.string y.f2,.slice B3 y.f3.length d3,.slice n y.f4.length d4,.slice p y.f5.length d5,.slice q y.f6.length d6,.int .i64 y.f7]) from ⟨_,zji W0 y m3 B m4 z m5 e5 m6 e6,rfl⟩);have Z:=zq aN;have l:=zq (show zjf (zbq k) word.data.toList least (x.f6.drop (d+1)) false (zie (zbq k) least y (if decide (d=0)=true then e else e.one word.data.toList))=sf from a6);clear ag m3 B m4 z m5 e5 m6 e6 aN a6;by_cases h0:d=0
        · have l:=zq (show zjf (zbq k) word.data.toList least (x.f6.drop (d+1)) (decide (d+1=0)) (zie (zbq k) least y e)=sf from by have:=l.o;rw [if_pos (by simp [h0])] at this;rw [show decide (d+1=0)=false by simp];exact this);have hz:¬0<d:=kab;have HN:=zq (show (zie (zbq k) least y e).o.length+((x.f6.drop (d+1)).map fun y=>zdc k y+10).sum+10<=140737488351232 from by have h1:=m.o;have j:=aP.o y Z.o e;omega);have u:=zq (show e.o.length+zdc k y+2<=140737488351232 from by have h1:=m.o;omega);have Y:=zq (r.o.alloc (.cells #[.int .i64 y.f0,.string y.f1,.string y.f2,.slice B3 y.f3.length d3,.slice n y.f4.length d4,.slice p y.f5.length d5,.slice q y.f6.length d6,.int .i64 y.f7] 60));have aE:=zq (aD.o.alloc r.o.lt (.cells #[.int .i64 y.f0,.string y.f1,.string y.f2,.slice B3 y.f3.length d3,.slice n y.f4.length d4,.slice p y.f5.length d5,.slice q y.f6.length d6,.int .i64 y.f7] 60));clear h0 m;go_wp2_with (go_at_call 105;refine (aR.o y _ _ e Z.o aO.o Y.o u.o).mono ?_;rintro z w4 ⟨rfl,D,E⟩;have aB:=zq D;have aC:=zq (aE.o.trans E);clear D E);all_goals
            go_roundw
            case rel=>exact ⟨d+1,_,kab,by go_num,aB,aC,l,HN⟩
            case measure=>simp [intOf];omega
        have l:=zq (show zjf (zbq k) word.data.toList least (x.f6.drop (d+1)) (decide (d+1=0)) (zie (zbq k) least y (e.one word.data.toList))=sf from by have:=l.o;rw [if_neg (by simp [h0])] at this;rw [show decide (d+1=0)=false by simp];exact this);have hz:0<d:=kab;have bz:=zdz word.data.toList e;have b0:word.data.toList.length=word.size:=rfl;have HN:=zq (show (zie (zbq k) least y (e.one word.data.toList)).o.length+((x.f6.drop (d+1)).map fun y=>zdc k y+10).sum+10<=140737488351232 from by have h1:=m.o;have j:=aP.o y Z.o (e.one word.data.toList);omega);have u:=zq (show (e.one word.data.toList).o.length+zdc k y+2<=140737488351232 from by have h1:=m.o;omega);have bw:=zq (show e.o.length+word.size+1<=140737488355328 from by have h1:=m.o;omega);have Y:=zq (r.o.alloc (.cells #[.int .i64 y.f0,.string y.f1,.string y.f2,.slice B3 y.f3.length d3,.slice n y.f4.length d4,.slice p y.f5.length d5,.slice q y.f6.length d6,.int .i64 y.f7] 60));have aE:=zq (aD.o.alloc r.o.lt (.cells #[.int .i64 y.f0,.string y.f1,.string y.f2,.slice B3 y.f3.length d3,.slice n y.f4.length d4,.slice p y.f5.length d5,.slice q y.f6.length d6,.int .i64 y.f7] 60));have bp:=zq (qab wr (.cells #[.int .i64 y.f0,.string y.f1,.string y.f2,.slice B3 y.f3.length d3,.slice n y.f4.length d4,.slice p y.f5.length d5,.slice q y.f6.length d6,.int .i64 y.f7] 60));have aM:=bv.o _ e Y.o bw.o;rw [qae] at aM;have bu:=zq aM;clear h0 m bz b0 aM;first
          | exact absurd H1.o kab
          | (go_wp2_with (first
               | (go_at_call 67;refine bu.o.mono ?_;rintro B w3 ⟨rfl,aY,aG⟩;have ba:=aG.keep Y.o bp.o kad kad;have bq:=zq aY;have br:=zq (aE.o.trans aG);obtain ⟨q0,q1,q2,q3,q4,q5,q6,q7⟩:=zbj ba;clear aY aG ba)
               | (go_at_call 105;refine (aR.o y _ _ _ Z.o aO.o bq.o u.o).mono ?_;rintro z w4 ⟨rfl,D,E⟩;have aB:=zq D;have aC:=zq (br.o.trans E);clear D E))
             all_goals
               go_roundw
               case rel=>exact ⟨d+1,_,kab,by go_num,aB,aC,l,HN⟩
               case measure=>simp [intOf];omega)
      obtain rfl:d=x.f6.length:=kab;have hf:=l.o;rw [List.drop_length] at hf;clear l a8;go_wp2;(all_goals (first|go_end0|(refine qaf (qbb rfl _ _ _) rfl ?_)));all_goals exact ⟨rfl,hf ▸ r.o,aD.o⟩
end
end
section
theorem zoy (W0 W:World) (g n:Nat) (s:PQ) (t:ByteArray) (h:PrS W0 W g s) (hn:W.heap.size=n) (b:s.o.length+t.size+1<=140737488355328) :
  Calls prog 67 #[.pointer (some ⟨g,0,none⟩),.slice (some ⟨n,0,none⟩) 1 1] (W.alloc (.cells #[.string t] 9)) (PrE W0 W g (s.one t.data.toList)):=by
 subst hn;exact zdj W0 W g s t h b
theorem zli (f:S60->Nat) (l:List S60):10*l.length<=(l.map fun y=>f y+10).sum:=by
 induction l with
 | nil=>simp
 | cons a l b=>simp only [qcf,List.sum_cons,qbe];omega
section
variable (W0:World) (g:Nat)
theorem cond_true (aC:Inv W0) (k:Nat) (hk:k<=16) (IH:zms W0 g k) (f1 f2:ByteArray) (f3:List S47) (f4:List S68) (f5:List ByteArray) (f6:List S60) (f7:Int) (v:Value) (W:World) (s:PQ) (hA:zes W0 ⟨1,f1,f2,f3,f4,f5,f6,f7⟩ v) (h:PrS W0 W g s) (I:s.bad=false) (J:zeq s=false) (hw:Wide (k+1) ⟨1,f1,f2,f3,f4,f5,f6,f7⟩) (hl:s.o.length+zdc (k+1) ⟨1,f1,f2,f3,f4,f5,f6,f7⟩<=140737488351232) :
  Calls prog 70 #[.pointer (some ⟨g,0,none⟩),v,.int .i64 (16-(k:Int))] W (PrE W0 W g (zbq (k+1) ⟨1,f1,f2,f3,f4,f5,f6,f7⟩ s)):=by
 have O:=zq hA;obtain ⟨cs,hK,rfl⟩:=hA;have hO:=zci hK;simp only at hO;obtain ⟨y,c3,z,c4,A5,c5,A6,c6,rfl,l3,g3,l4,g4,l5,g5,l6,g6⟩:=hO;have aF:=h.lt;have HX:=zq (h.alloc (.cells #[.int .i64 1,.string f1,.string f2,.slice y f3.length c3,.slice z f4.length c4,.slice A5 f5.length c5,.slice A6 f6.length c6,.int .i64 f7] 60));have HT:=zq ((Stp.refl W g).alloc aF (.cells #[.int .i64 1,.string f1,.string f2,.slice y f3.length c3,.slice z f4.length c4,.slice A5 f5.length c5,.slice A6 f6.length c6,.int .i64 f7] 60));have HQ:=zq (qab W (.cells #[.int .i64 1,.string f1,.string f2,.slice y f3.length c3,.slice z f4.length c4,.slice A5 f5.length c5,.slice A6 f6.length c6,.int .i64 f7] 60));have Y:=zq (show ∀ w,PrS W0 w g s->Calls prog 65 #[.pointer (some ⟨g,0,none⟩),.bool true] w (PrE W0 w g s) from fun w h=>by have:=zbu W0 w g s true h;rwa [zfj] at this);have X:=zq (show ∀ w,PrS W0 w g s->Calls prog 66 #[.pointer (some ⟨g,0,none⟩)] w fun e w'=>e = .returned (.bool false)/\w'=w from fun w h=>by have:=zdi W0 w g s h kab;rwa [show decide (8000<s.o.length)=false from J] at this);have U:=zq (show ∀ w,PrS W0 w g s->w.cell? ⟨g,2,none⟩=some (.bool false) from fun w h=>by obtain ⟨_,_,_,_,a2,_⟩:=h.facts;rwa [I] at a2);have aA:¬(s.bad||zeq s)=true:=by rw [I,J];decide
 have aI:(0:Int)<=16-(k:Int):=kab;have aJ:16-(k:Int)<=16:=kab;have HB:=zq (fun w (h:Below W0.heap.size W0 w)=>zfy w ⟨1,f1,f2,f3,f4,f5,f6,f7⟩ _ (O.o.below h) false false false false false false);have Z:=zq (fun w b' (h:PrS W0 w g s)=>zbu W0 w g s b' h);have a8:zbq (k+1) ⟨1,f1,f2,f3,f4,f5,f6,f7⟩ s=(s.must (zdd ⟨1,f1,f2,f3,f4,f5,f6,f7⟩ false false false false false false)).one zuf:=by unfold zbq;rw [if_neg aA,if_pos rfl]
 rw [a8];have aG:s.o.length+1000<=140737488351232:=by unfold zdc at hl;omega
 have HW:=zq (fun w n b (h:PrS W0 w g (s.must b)) (hn:w.heap.size=n)=>show Calls prog 67 #[.pointer (some ⟨g,0,none⟩),.slice (some ⟨n,0,none⟩) 1 1] (w.alloc (.cells #[.string ⟨#[116,114,117,101]⟩] 9)) (PrE W0 w g ((s.must b).one zuf)) from zoy W0 w g n _ ⟨#[116,114,117,101]⟩ h hn (by rw [zbz];show _+4+1<=_;omega));generalize zdd ⟨1,f1,f2,f3,f4,f5,f6,f7⟩ false false false false false false=b at HB ⊢;clear h hK hl hw aC IH O a8 aG aA I J g3 g4 g5 g6 l3 l4 l5 l6;go_enter func70,ntmps70;go_wp2_with (first
  | (go_at_call 65;refine (Y.o _ HX.o).mono ?_;rintro e0 w0 ⟨rfl,D,E⟩;have L:=E.keep HX.o HQ.o kad kad;have c:=zq D;have a1:=zq (HT.o.trans E);have A:=zq L;have p0:=U.o _ D;obtain ⟨j,l,m,p,q,r,u,x⟩:=zbj L;clear D E L Y HX HT HQ U)
  | (go_at_call 66;refine (X.o _ c.o).mono ?_;rintro el wl ⟨rfl,rfl⟩;clear X)
  | (go_at_call 104;refine (HB.o _ c.o.bel).mono ?_;rintro e1 w1 ⟨rfl,d⟩;have B:=zq (c.o.below d);have a6:=zq (a1.o.below c.o.lt d);have M:=(d.block _ (zam A.o)).trans A.o;have ad:=zq M;clear j l m p q r u x p0;obtain ⟨j,l,m,p,q,r,u,x⟩:=zbj M;clear d M HB c a1 A)
  | (go_at_call 65;refine (Z.o _ _ B.o).mono ?_;rintro e2 w2 ⟨rfl,a7,G⟩;have i:=G.keep B.o ad.o kad kad;have af:=zq a7;have aB:=zq (a6.o.trans G);have aH:=zq i;clear j l m p q r u x;obtain ⟨j,l,m,p,q,r,u,x⟩:=zbj i;have r0:=fun o=>(zbj (zaf i o)).1;clear a7 G i Z B a6 ad)
  | (go_at_call 67;refine (HW.o _ _ _ (af.o.alloc _) (qae ..)).mono ?_;rintro e3 w3 ⟨rfl,aD,aE⟩))
 first|go_end0|(refine qaf (qbb rfl _ _ _) rfl ?_)
 exact ⟨rfl,aD,(aB.o.alloc af.o.lt _).trans aE⟩
theorem cond_false (aC:Inv W0) (k:Nat) (hk:k<=16) (IH:zms W0 g k) (f1 f2:ByteArray) (f3:List S47) (f4:List S68) (f5:List ByteArray) (f6:List S60) (f7:Int) (v:Value) (W:World) (s:PQ) (hA:zes W0 ⟨2,f1,f2,f3,f4,f5,f6,f7⟩ v) (h:PrS W0 W g s) (I:s.bad=false) (J:zeq s=false) (hw:Wide (k+1) ⟨2,f1,f2,f3,f4,f5,f6,f7⟩) (hl:s.o.length+zdc (k+1) ⟨2,f1,f2,f3,f4,f5,f6,f7⟩<=140737488351232) :
  Calls prog 70 #[.pointer (some ⟨g,0,none⟩),v,.int .i64 (16-(k:Int))] W (PrE W0 W g (zbq (k+1) ⟨2,f1,f2,f3,f4,f5,f6,f7⟩ s)):=by
 have O:=zq hA;obtain ⟨cs,hK,rfl⟩:=hA;have hO:=zci hK;simp only at hO;obtain ⟨y,c3,z,c4,A5,c5,A6,c6,rfl,l3,g3,l4,g4,l5,g5,l6,g6⟩:=hO;have aF:=h.lt;have HX:=zq (h.alloc (.cells #[.int .i64 2,.string f1,.string f2,.slice y f3.length c3,.slice z f4.length c4,.slice A5 f5.length c5,.slice A6 f6.length c6,.int .i64 f7] 60));have HT:=zq ((Stp.refl W g).alloc aF (.cells #[.int .i64 2,.string f1,.string f2,.slice y f3.length c3,.slice z f4.length c4,.slice A5 f5.length c5,.slice A6 f6.length c6,.int .i64 f7] 60));have HQ:=zq (qab W (.cells #[.int .i64 2,.string f1,.string f2,.slice y f3.length c3,.slice z f4.length c4,.slice A5 f5.length c5,.slice A6 f6.length c6,.int .i64 f7] 60));have Y:=zq (show ∀ w,PrS W0 w g s->Calls prog 65 #[.pointer (some ⟨g,0,none⟩),.bool true] w (PrE W0 w g s) from fun w h=>by have:=zbu W0 w g s true h;rwa [zfj] at this);have X:=zq (show ∀ w,PrS W0 w g s->Calls prog 66 #[.pointer (some ⟨g,0,none⟩)] w fun e w'=>e = .returned (.bool false)/\w'=w from fun w h=>by have:=zdi W0 w g s h kab;rwa [show decide (8000<s.o.length)=false from J] at this);have U:=zq (show ∀ w,PrS W0 w g s->w.cell? ⟨g,2,none⟩=some (.bool false) from fun w h=>by obtain ⟨_,_,_,_,a2,_⟩:=h.facts;rwa [I] at a2);have aA:¬(s.bad||zeq s)=true:=by rw [I,J];decide
 have aI:(0:Int)<=16-(k:Int):=kab;have aJ:16-(k:Int)<=16:=kab;have HB:=zq (fun w (h:Below W0.heap.size W0 w)=>zfy w ⟨2,f1,f2,f3,f4,f5,f6,f7⟩ _ (O.o.below h) false false false false false false);have Z:=zq (fun w b' (h:PrS W0 w g s)=>zbu W0 w g s b' h);have a8:zbq (k+1) ⟨2,f1,f2,f3,f4,f5,f6,f7⟩ s=(s.must (zdd ⟨2,f1,f2,f3,f4,f5,f6,f7⟩ false false false false false false)).one zrd:=by unfold zbq;rw [if_neg aA,if_neg (show ¬(2:Int)=1 from by decide),if_pos rfl]
 rw [a8];have aG:s.o.length+1000<=140737488351232:=by unfold zdc at hl;omega
 have HW:=zq (fun w n b (h:PrS W0 w g (s.must b)) (hn:w.heap.size=n)=>show Calls prog 67 #[.pointer (some ⟨g,0,none⟩),.slice (some ⟨n,0,none⟩) 1 1] (w.alloc (.cells #[.string ⟨#[102,97,108,115,101]⟩] 9)) (PrE W0 w g ((s.must b).one zrd)) from zoy W0 w g n _ ⟨#[102,97,108,115,101]⟩ h hn (by rw [zbz];show _+5+1<=_;omega));generalize zdd ⟨2,f1,f2,f3,f4,f5,f6,f7⟩ false false false false false false=b at HB ⊢;clear h hK hl hw aC IH O a8 aG aA I J g3 g4 g5 g6 l3 l4 l5 l6;go_enter func70,ntmps70;go_wp2_with (first
  | (go_at_call 65;refine (Y.o _ HX.o).mono ?_;rintro e0 w0 ⟨rfl,D,E⟩;have L:=E.keep HX.o HQ.o kad kad;have c:=zq D;have a1:=zq (HT.o.trans E);have A:=zq L;have p0:=U.o _ D;obtain ⟨j,l,m,p,q,r,u,x⟩:=zbj L;clear D E L Y HX HT HQ U)
  | (go_at_call 66;refine (X.o _ c.o).mono ?_;rintro el wl ⟨rfl,rfl⟩;clear X)
  | (go_at_call 104;refine (HB.o _ c.o.bel).mono ?_;rintro e1 w1 ⟨rfl,d⟩;have B:=zq (c.o.below d);have a6:=zq (a1.o.below c.o.lt d);have M:=(d.block _ (zam A.o)).trans A.o;have ad:=zq M;clear j l m p q r u x p0;obtain ⟨j,l,m,p,q,r,u,x⟩:=zbj M;clear d M HB c a1 A)
  | (go_at_call 65;refine (Z.o _ _ B.o).mono ?_;rintro e2 w2 ⟨rfl,a7,G⟩;have i:=G.keep B.o ad.o kad kad;have af:=zq a7;have aB:=zq (a6.o.trans G);have aH:=zq i;clear j l m p q r u x;obtain ⟨j,l,m,p,q,r,u,x⟩:=zbj i;have r0:=fun o=>(zbj (zaf i o)).1;clear a7 G i Z B a6 ad)
  | (go_at_call 67;refine (HW.o _ _ _ (af.o.alloc _) (qae ..)).mono ?_;rintro e3 w3 ⟨rfl,aD,aE⟩))
 first|go_end0|(refine qaf (qbb rfl _ _ _) rfl ?_)
 exact ⟨rfl,aD,(aB.o.alloc af.o.lt _).trans aE⟩
theorem cond_name (a6:Inv W0) (k:Nat) (hk:k<=16) (IH:zms W0 g k) (f1 f2:ByteArray) (f3:List S47) (f4:List S68) (f5:List ByteArray) (f6:List S60) (f7:Int) (v:Value) (W:World) (s:PQ) (hA:zes W0 ⟨3,f1,f2,f3,f4,f5,f6,f7⟩ v) (h:PrS W0 W g s) (G:s.bad=false) (J:zeq s=false) (hw:Wide (k+1) ⟨3,f1,f2,f3,f4,f5,f6,f7⟩) (I:s.o.length+zdc (k+1) ⟨3,f1,f2,f3,f4,f5,f6,f7⟩<=140737488351232) :
  Calls prog 70 #[.pointer (some ⟨g,0,none⟩),v,.int .i64 (16-(k:Int))] W (PrE W0 W g (zbq (k+1) ⟨3,f1,f2,f3,f4,f5,f6,f7⟩ s)):=by
 have O:=zq hA;obtain ⟨cs,hK,rfl⟩:=hA;have hO:=zci hK;simp only at hO;obtain ⟨x,c3,y,c4,A5,c5,A6,c6,rfl,l3,g3,l4,g4,l5,g5,l6,g6⟩:=hO;have aF:=h.lt;have HX:=zq (h.alloc (.cells #[.int .i64 3,.string f1,.string f2,.slice x f3.length c3,.slice y f4.length c4,.slice A5 f5.length c5,.slice A6 f6.length c6,.int .i64 f7] 60));have HT:=zq ((Stp.refl W g).alloc aF (.cells #[.int .i64 3,.string f1,.string f2,.slice x f3.length c3,.slice y f4.length c4,.slice A5 f5.length c5,.slice A6 f6.length c6,.int .i64 f7] 60));have HQ:=zq (qab W (.cells #[.int .i64 3,.string f1,.string f2,.slice x f3.length c3,.slice y f4.length c4,.slice A5 f5.length c5,.slice A6 f6.length c6,.int .i64 f7] 60));have Y:=zq (show ∀ w,PrS W0 w g s->Calls prog 65 #[.pointer (some ⟨g,0,none⟩),.bool true] w (PrE W0 w g s) from fun w h=>by have:=zbu W0 w g s true h;rwa [zfj] at this);have X:=zq (show ∀ w,PrS W0 w g s->Calls prog 66 #[.pointer (some ⟨g,0,none⟩)] w fun e w'=>e = .returned (.bool false)/\w'=w from fun w h=>by have:=zdi W0 w g s h kab;rwa [show decide (8000<s.o.length)=false from J] at this);have U:=zq (show ∀ w,PrS W0 w g s->w.cell? ⟨g,2,none⟩=some (.bool false) from fun w h=>by obtain ⟨_,_,_,_,a2,_⟩:=h.facts;rwa [G] at a2);have aA:¬(s.bad||zeq s)=true:=by rw [G,J];decide
 have aI:(0:Int)<=16-(k:Int):=kab;have aJ:16-(k:Int)<=16:=kab;have HB:=zq (fun w (h:Below W0.heap.size W0 w)=>zfy w ⟨3,f1,f2,f3,f4,f5,f6,f7⟩ _ (O.o.below h) true false false false false false);have Z:=zq (fun w b' (h:PrS W0 w g s)=>zbu W0 w g s b' h);have a8:zbq (k+1) ⟨3,f1,f2,f3,f4,f5,f6,f7⟩ s=zbp f1 (s.must (zdd ⟨3,f1,f2,f3,f4,f5,f6,f7⟩ true false false false false false)):=by unfold zbq;rw [if_neg aA,if_neg (show ¬(3:Int)=1 from by decide),if_neg (show ¬(3:Int)=2 from by decide),if_pos rfl]
 rw [a8];have aG:s.o.length+1000+f1.size<=140737488351232:=by unfold zdc at I;dsimp only at I;omega
 have HN:=zq (fun w b (h:PrS W0 w g (s.must b))=>zgv W0 w g _ f1 a6 h (by rw [zbz];omega));generalize zdd ⟨3,f1,f2,f3,f4,f5,f6,f7⟩ true false false false false false=b at HB ⊢;clear h hK I hw a6 IH O a8 aG aA G J g3 g4 g5 g6 l3 l4 l5 l6;go_enter func70,ntmps70;go_wp2_with (first
  | (go_at_call 65;refine (Y.o _ HX.o).mono ?_;rintro e0 w0 ⟨rfl,B,D⟩;have L:=D.keep HX.o HQ.o kad kad;have c:=zq B;have af:=zq (HT.o.trans D);have z:=zq L;have p0:=U.o _ B;obtain ⟨j,l,m,n,p,q,r,u⟩:=zbj L;clear B D L Y HX HT HQ U)
  | (go_at_call 66;refine (X.o _ c.o).mono ?_;rintro el wl ⟨rfl,rfl⟩;clear X)
  | (go_at_call 104;refine (HB.o _ c.o.bel).mono ?_;rintro e1 w1 ⟨rfl,d⟩;have A:=zq (c.o.below d);have a1:=zq (af.o.below c.o.lt d);have M:=(d.block _ (zam z.o)).trans z.o;have ad:=zq M;clear j l m n p q r u p0;obtain ⟨j,l,m,n,p,q,r,u⟩:=zbj M;clear d M HB c af z)
  | (go_at_call 65;refine (Z.o _ _ A.o).mono ?_;rintro e2 w2 ⟨rfl,a7,E⟩;have i:=E.keep A.o ad.o kad kad;have aB:=zq a7;have aC:=zq (a1.o.trans E);have aH:=zq i;clear j l m n p q r u;obtain ⟨j,l,m,n,p,q,r,u⟩:=zbj i;have r0:=fun o=>(zbj (zaf i o)).1;clear a7 E i Z A a1 ad)
  | (go_at_call 68;refine (HN.o _ _ aB.o).mono ?_;rintro e3 w3 ⟨rfl,aD,aE⟩))
 first|go_end0|(refine qaf (qbb rfl _ _ _) rfl ?_)
 exact ⟨rfl,aD,aC.o.trans aE⟩
theorem cond_not (aD:Inv W0) (k:Nat) (hk:k<=16) (IH:zms W0 g k) (f1 f2:ByteArray) (f3:List S47) (f4:List S68) (f5:List ByteArray) (f6:List S60) (f7:Int) (v:Value) (W:World) (s:PQ) (hA:zes W0 ⟨4,f1,f2,f3,f4,f5,f6,f7⟩ v) (h:PrS W0 W g s) (U:s.bad=false) (a7:zeq s=false) (hw:Wide (k+1) ⟨4,f1,f2,f3,f4,f5,f6,f7⟩) (hl:s.o.length+zdc (k+1) ⟨4,f1,f2,f3,f4,f5,f6,f7⟩<=140737488351232) :
  Calls prog 70 #[.pointer (some ⟨g,0,none⟩),v,.int .i64 (16-(k:Int))] W (PrE W0 W g (zbq (k+1) ⟨4,f1,f2,f3,f4,f5,f6,f7⟩ s)):=by
 have HA:=zq hA;obtain ⟨cs,hK,rfl⟩:=hA;have hO:=zci hK;simp only at hO;obtain ⟨A3,c3,A4,c4,A5,c5,A6,c6,rfl,l3,g3,l4,g4,l5,g5,l6,g6⟩:=hO;have aU:=h.lt;have HX:=zq (h.alloc (.cells #[.int .i64 4,.string f1,.string f2,.slice A3 f3.length c3,.slice A4 f4.length c4,.slice A5 f5.length c5,.slice A6 f6.length c6,.int .i64 f7] 60));have HT:=zq ((Stp.refl W g).alloc aU (.cells #[.int .i64 4,.string f1,.string f2,.slice A3 f3.length c3,.slice A4 f4.length c4,.slice A5 f5.length c5,.slice A6 f6.length c6,.int .i64 f7] 60));have HQ:=zq (qab W (.cells #[.int .i64 4,.string f1,.string f2,.slice A3 f3.length c3,.slice A4 f4.length c4,.slice A5 f5.length c5,.slice A6 f6.length c6,.int .i64 f7] 60));have Z:=zq (show ∀ w,PrS W0 w g s->Calls prog 65 #[.pointer (some ⟨g,0,none⟩),.bool true] w (PrE W0 w g s) from fun w h=>by have:=zbu W0 w g s true h;rwa [zfj] at this);have Y:=zq (show ∀ w,PrS W0 w g s->Calls prog 66 #[.pointer (some ⟨g,0,none⟩)] w fun e w'=>e = .returned (.bool false)/\w'=w from fun w h=>by have:=zdi W0 w g s h kab;rwa [show decide (8000<s.o.length)=false from a7] at this);have X:=zq (show ∀ w,PrS W0 w g s->w.cell? ⟨g,2,none⟩=some (.bool false) from fun w h=>by obtain ⟨_,_,_,_,a2,_⟩:=h.facts;rwa [U] at a2);have aA:¬(s.bad||zeq s)=true:=by rw [U,a7];decide
 have aX:(0:Int)<=16-(k:Int):=kab;have aY:16-(k:Int)<=16:=kab;have HB:=zq (fun w (h:Below W0.heap.size W0 w)=>zfy w ⟨4,f1,f2,f3,f4,f5,f6,f7⟩ _ (HA.o.below h) false false false false false true);have af:=zq (fun w b' (h:PrS W0 w g s)=>zbu W0 w g s b' h);have aB:=zq U;have h4:=zli (zdc k) f6;have aG:s.o.length+1000+(f6.map fun y=>zdc k y+10).sum<=140737488351232:=by unfold zdc at hl;dsimp only at hl;omega
 have aV:f6.length<=140737488351232:=kab;clear h4;have a8:zbq (k+1) ⟨4,f1,f2,f3,f4,f5,f6,f7⟩ s=(if (s.must (zdd ⟨4,f1,f2,f3,f4,f5,f6,f7⟩ false false false false false true&&decide (f6.length=1))).bad=true then s.must (zdd ⟨4,f1,f2,f3,f4,f5,f6,f7⟩ false false false false false true&&decide (f6.length=1)) else zie (zbq k) 2 (f6.getD 0 z60) ((s.must (zdd ⟨4,f1,f2,f3,f4,f5,f6,f7⟩ false false false false false true&&decide (f6.length=1))).one wNot)):=by unfold zbq;rw [if_neg aA,if_neg (show ¬(4:Int)=1 from by decide),if_neg (show ¬(4:Int)=2 from by decide),if_neg (show ¬(4:Int)=3 from by decide),if_pos rfl]
 rw [a8];by_cases D:zdd ⟨4,f1,f2,f3,f4,f5,f6,f7⟩ false false false false false true=true
 ·by_cases h1:f6.length=1
  ·have O:(zdd ⟨4,f1,f2,f3,f4,f5,f6,f7⟩ false false false false false true&&decide (f6.length=1))=true:=(by rw [D,h1];rfl);rw [O,if_neg (by simp [PQ.must,U])];rw [D] at HB;obtain ⟨ad,B3,d3,B4,d4,B5,d5,B6,d6,rfl,x0,x1,x2,x3,x4,x5,x6,x7,m3,e3,m4,e4,m5,e5,m6,e6⟩:=zkr g6 0 kad kab;have aL:zbf f6 0=f6.getD 0 z60:=rfl;have aI:ad.add ((0:Int).toNat*8)=ad:=(by show ad.add 0=ad;unfold Addr.add;simp);rw [aL] at x0 x1 x2 x3 x4 x5 x6 x7 m3 e3 m4 e4 m5 e5 m6 e6;rw [aI] at x0 x1 x2 x3 x4 x5 x6 x7;have hm:f6.getD 0 z60∈f6:=(by rw [qat,qao kab];exact List.getElem_mem _);have aM:=zjs (fun y=>zdc k y+10) f6 _ hm;have aH:=hw.2 _ hm;generalize f6.getD 0 z60=y at x0 x1 x2 x3 x4 x5 x6 x7 m3 e3 m4 e4 m5 e5 m6 e6 aM aH ⊢;have aN:=zq (show zes W0 y (.agg #[.int .i64 y.f0,.string y.f1,.string y.f2,.slice B3 y.f3.length d3,.slice B4 y.f4.length d4,.slice B5 y.f5.length d5,.slice B6 y.f6.length d6,.int .i64 y.f7]) from ⟨_,zji W0 y m3 e3 m4 e4 m5 e5 m6 e6,rfl⟩);have HY:=zq (fun w (h:Below W0.heap.size W0 w)=>And.intro (zag h x0) (And.intro (zag h x1) (And.intro (zag h x2) (And.intro (zag h x3) (And.intro (zag h x4) (And.intro (zag h x5) (And.intro (zag h x6) (zag h x7))))))));have aJ:=zdz wNot (s.must true);rw [zbz] at aJ;have aW:wNot.length=3:=rfl;have HW:=zq (fun w (h:PrS W0 w g (s.must true))=>show Calls prog 67 #[.pointer (some ⟨g,0,none⟩),.slice (some ⟨w.heap.size,0,none⟩) 1 1] (w.alloc (.cells #[.string ⟨#[110,111,116]⟩] 9)) (PrE W0 w g ((s.must true).one wNot)) from zdj W0 w g _ ⟨#[110,111,116]⟩ h (by rw [zbz];show _+3+1<=_;omega));have HP:=zq (show ∀ w,PrS W0 w g ((s.must true).one wNot)->Calls prog 105 #[.pointer (some ⟨g,0,none⟩),.agg #[.int .i64 y.f0,.string y.f1,.string y.f2,.slice B3 y.f3.length d3,.slice B4 y.f4.length d4,.slice B5 y.f5.length d5,.slice B6 y.f6.length d6,.int .i64 y.f7],.int .i64 2,.int .i64 (16-(k:Int)+1)] w (PrE W0 w g (zie (zbq k) 2 y ((s.must true).one wNot))) from fun w h=>by
    have:=znh W0 g k IH y _ w _ 2 aN.o h aH kab;rwa [show (17:Int)-(k:Int)=16-(k:Int)+1 by omega] at this)
   have aQ:¬((f6.length:Int)=1)->False:=fun h=>h kab;generalize zie (zbq k) 2 y ((s.must true).one wNot)=sf at HP ⊢;generalize (s.must true).one wNot=s3 at HW HP;have aR:(f6.length:Int)=1:=kab;have aZ:0<f6.length:=kab;clear h hK hl hw aD IH HA a8 aG aA U a7 g3 g4 g5 g6 l3 l4 l5 O D h1 aL aI x0 x1 x2 x3 x4 x5 x6 x7 m3 e3 m4 e4 m5 e5 m6 e6 hm aM aH aJ aW aQ aV;go_enter func70,ntmps70;go_wp2_with (first
    | (go_at_call 65;refine (Z.o _ HX.o).mono ?_;rintro e0 w0 ⟨rfl,x,A⟩;have E:=A.keep HX.o HQ.o kad kad;have b:=zq x;have L:=zq (HT.o.trans A);have r:=zq E;have p0:=X.o _ x;obtain ⟨c,d,i,j,l,m,n,p⟩:=zbj E;clear x A E Z HX HT HQ X)
    | (go_at_call 66;refine (Y.o _ b.o).mono ?_;rintro el wl ⟨rfl,rfl⟩;clear Y)
    | (go_at_call 104;refine (HB.o _ b.o.bel).mono ?_;rintro e1 w1 ⟨rfl,q⟩;have u:=zq (b.o.below q);have M:=zq (L.o.below b.o.lt q);have G:=(q.block _ (zam r.o)).trans r.o;have J:=zq G;clear c d i j l m n p p0;obtain ⟨c,d,i,j,l,m,n,p⟩:=zbj G;clear q G HB b L r)
    | (go_at_call 65;refine (af.o _ _ u.o).mono ?_;rintro e2 w2 ⟨rfl,z,B⟩;have I:=B.keep u.o J.o kad kad;have a6:=zq (M.o.trans B);obtain ⟨_,_,_,_,p2,_⟩:=z.facts;have p3:w2.cell? ⟨g,2,none⟩=some (.bool false):=(by simpa [PQ.must,aB.o] using p2);have a1:=zq z;have aC:=zq I;clear c d i j l m n p;obtain ⟨c,d,i,j,l,m,n,p⟩:=zbj I;clear z B I p2 af u M J)
    | (go_at_call 67;refine (HW.o _ a1.o).mono ?_;rintro e3 w3 ⟨rfl,aE,aF⟩;have aK:=aF.keep a1.o aC.o kad kad;have aO:=zq aE;have aP:=zq (a6.o.trans aF);clear c d i j l m n p;obtain ⟨c,d,i,j,l,m,n,p⟩:=zbj aK;obtain ⟨x0,x1,x2,x3,x4,x5,x6,x7⟩:=HY.o _ aE.bel;clear aE aF aK)
    | (go_at_call 105;refine (HP.o _ aO.o).mono ?_;rintro e4 w4 ⟨rfl,aS,aT⟩))
   (first|go_end0|(refine qaf (qbb rfl _ _ _) rfl ?_));exact ⟨rfl,aS,aP.o.trans aT⟩
  have O:(zdd ⟨4,f1,f2,f3,f4,f5,f6,f7⟩ false false false false false true&&decide (f6.length=1))=false:=by rw [D];simp [h1]
  rw [O,if_pos (by simp [PQ.must])];rw [D] at HB;have aR:((f6.length:Int)==1)=false:=kbl;clear h hK hl hw aD IH HA a8 aG aA U a7 g3 g4 g5 g6 l3 l4 l5 O D h1;go_enter func70,ntmps70;go_wp2_with (first
   | (go_at_call 65;refine (Z.o _ HX.o).mono ?_;rintro e0 w0 ⟨rfl,x,A⟩;have E:=A.keep HX.o HQ.o kad kad;have b:=zq x;have L:=zq (HT.o.trans A);have r:=zq E;have p0:=X.o _ x;obtain ⟨c,d,i,j,l,m,n,p⟩:=zbj E;clear x A E Z HX HT HQ X)
   | (go_at_call 66;refine (Y.o _ b.o).mono ?_;rintro el wl ⟨rfl,rfl⟩;clear Y)
   | (go_at_call 104;refine (HB.o _ b.o.bel).mono ?_;rintro e1 w1 ⟨rfl,q⟩;have u:=zq (b.o.below q);have M:=zq (L.o.below b.o.lt q);have G:=(q.block _ (zam r.o)).trans r.o;have J:=zq G;clear c d i j l m n p p0;obtain ⟨c,d,i,j,l,m,n,p⟩:=zbj G;clear q G HB b L r)
   | (go_at_call 65;refine (af.o _ _ u.o).mono ?_;rintro e2 w2 ⟨rfl,z,B⟩;have I:=B.keep u.o J.o kad kad;have a6:=zq (M.o.trans B);obtain ⟨_,_,_,_,p2,_⟩:=z.facts;have p3:w2.cell? ⟨g,2,none⟩=some (.bool true):=(by simpa [PQ.must,aB.o] using p2);have a1:=zq z;have aC:=zq I;clear c d i j l m n p;obtain ⟨c,d,i,j,l,m,n,p⟩:=zbj I;clear z B I p2 af u M J))
  first|go_end0|(refine qaf (qbb rfl _ _ _) rfl ?_)
  exact ⟨rfl,a1.o,a6.o⟩
 have D:zdd ⟨4,f1,f2,f3,f4,f5,f6,f7⟩ false false false false false true=false:=by simpa using D
 have O:(zdd ⟨4,f1,f2,f3,f4,f5,f6,f7⟩ false false false false false true&&decide (f6.length=1))=false:=by rw [D];rfl
 rw [O,if_pos (by simp [PQ.must])];rw [D] at HB;clear h hK hl hw aD IH HA a8 aG aA U a7 g3 g4 g5 g6 l3 l4 l5 O D;go_enter func70,ntmps70;go_wp2_with (first
  | (go_at_call 65;refine (Z.o _ HX.o).mono ?_;rintro e0 w0 ⟨rfl,x,A⟩;have E:=A.keep HX.o HQ.o kad kad;have b:=zq x;have L:=zq (HT.o.trans A);have r:=zq E;have p0:=X.o _ x;obtain ⟨c,d,i,j,l,m,n,p⟩:=zbj E;clear x A E Z HX HT HQ X)
  | (go_at_call 66;refine (Y.o _ b.o).mono ?_;rintro el wl ⟨rfl,rfl⟩;clear Y)
  | (go_at_call 104;refine (HB.o _ b.o.bel).mono ?_;rintro e1 w1 ⟨rfl,q⟩;have u:=zq (b.o.below q);have M:=zq (L.o.below b.o.lt q);have G:=(q.block _ (zam r.o)).trans r.o;have J:=zq G;clear c d i j l m n p p0;obtain ⟨c,d,i,j,l,m,n,p⟩:=zbj G;clear q G HB b L r)
  | (go_at_call 65;refine (af.o _ _ u.o).mono ?_;rintro e2 w2 ⟨rfl,z,B⟩;have I:=B.keep u.o J.o kad kad;have a6:=zq (M.o.trans B);obtain ⟨_,_,_,_,p2,_⟩:=z.facts;have p3:w2.cell? ⟨g,2,none⟩=some (.bool true):=(by simpa [PQ.must,aB.o] using p2);have a1:=zq z;have aC:=zq I;clear c d i j l m n p;obtain ⟨c,d,i,j,l,m,n,p⟩:=zbj I;clear z B I p2 af u M J))
 first|go_end0|(refine qaf (qbb rfl _ _ _) rfl ?_)
 exact ⟨rfl,a1.o,a6.o⟩
theorem cond_and (X:Inv W0) (k:Nat) (hk:k<=16) (D:zms W0 g k) (f1 f2:ByteArray) (f3:List S47) (f4:List S68) (f5:List ByteArray) (f6:List S60) (f7:Int) (v:Value) (W:World) (s:PQ) (E:zes W0 ⟨5,f1,f2,f3,f4,f5,f6,f7⟩ v) (h:PrS W0 W g s) (j:s.bad=false) (m:zeq s=false) (O:Wide (k+1) ⟨5,f1,f2,f3,f4,f5,f6,f7⟩) (l:s.o.length+zdc (k+1) ⟨5,f1,f2,f3,f4,f5,f6,f7⟩<=140737488351232) :
  Calls prog 70 #[.pointer (some ⟨g,0,none⟩),v,.int .i64 (16-(k:Int))] W (PrE W0 W g (zbq (k+1) ⟨5,f1,f2,f3,f4,f5,f6,f7⟩ s)):=by
 have p:=zq E;obtain ⟨cs,G,rfl⟩:=E;have I:=zci G;simp only at I;obtain ⟨b,c3,c,c4,A5,c5,A6,c6,rfl,l3,g3,l4,g4,l5,g5,l6,g6⟩:=I;have ad:=h.lt;have HX:=zq (h.alloc (.cells #[.int .i64 5,.string f1,.string f2,.slice b f3.length c3,.slice c f4.length c4,.slice A5 f5.length c5,.slice A6 f6.length c6,.int .i64 f7] 60));have B:=zq ((Stp.refl W g).alloc ad (.cells #[.int .i64 5,.string f1,.string f2,.slice b f3.length c3,.slice c f4.length c4,.slice A5 f5.length c5,.slice A6 f6.length c6,.int .i64 f7] 60));have x:=zq (qab W (.cells #[.int .i64 5,.string f1,.string f2,.slice b f3.length c3,.slice c f4.length c4,.slice A5 f5.length c5,.slice A6 f6.length c6,.int .i64 f7] 60));have u:=zq (show ∀ w,PrS W0 w g s->Calls prog 65 #[.pointer (some ⟨g,0,none⟩),.bool true] w (PrE W0 w g s) from fun w h=>by have:=zbu W0 w g s true h;rwa [zfj] at this);have r:=zq (show ∀ w,PrS W0 w g s->Calls prog 66 #[.pointer (some ⟨g,0,none⟩)] w fun e w'=>e = .returned (.bool false)/\w'=w from fun w h=>by have:=zdi W0 w g s h kab;rwa [show decide (8000<s.o.length)=false from m] at this);have q:=zq (show ∀ w,PrS W0 w g s->w.cell? ⟨g,2,none⟩=some (.bool false) from fun w h=>by obtain ⟨_,_,_,_,a2,_⟩:=h.facts;rwa [j] at a2);have L:¬(s.bad||zeq s)=true:=by rw [j,m];decide
 have a6:(0:Int)<=16-(k:Int):=kab;have a7:16-(k:Int)<=16:=kab;have J:zbq (k+1) ⟨5,f1,f2,f3,f4,f5,f6,f7⟩ s=rowQ (zbq k) wAnd 2 ⟨5,f1,f2,f3,f4,f5,f6,f7⟩ s:=by unfold zbq;rw [if_neg L,if_neg (show ¬(5:Int)=1 from by decide),if_neg (show ¬(5:Int)=2 from by decide),if_neg (show ¬(5:Int)=3 from by decide),if_neg (show ¬(5:Int)=4 from by decide),if_pos rfl]
 rw [J];have af:s.o.length+1000+(f6.map fun y=>zdc k y+10).sum<=140737488351232:=by unfold zdc at l;dsimp only at l;omega
 have M:f6.length<=140737488351232:=by have:=zli (zdc k) f6;omega
 have z:=zq (fun w (h:PrS W0 w g s)=>show Calls prog 106 #[.pointer (some ⟨g,0,none⟩),_,.string ⟨#[97,110,100]⟩,.int .i64 2,.int .i64 (16-(k:Int))] w (PrE W0 w g (rowQ (zbq k) wAnd 2 ⟨5,f1,f2,f3,f4,f5,f6,f7⟩ s)) from znd W0 g k hk D ⟨5,f1,f2,f3,f4,f5,f6,f7⟩ _ w s ⟨#[97,110,100]⟩ 2 p.o h (fun y hy=>O.2 y hy) kad M (by show _+(f6.map _).sum+20<=_;omega));generalize rowQ (zbq k) wAnd 2 ⟨5,f1,f2,f3,f4,f5,f6,f7⟩ s=sf at z ⊢;clear h G l O X D p J af L j m g3 g4 g5 g6 l3 l4 l5 l6 M;go_enter func70,ntmps70;go_wp2_with (first
  | (go_at_call 65;refine (u.o _ HX.o).mono ?_;rintro e0 w0 ⟨rfl,d,i⟩;have n:=i.keep HX.o x.o kad kad;have A:=zq d;have U:=zq (B.o.trans i);have a1:=zq n;have p0:=q.o _ d;obtain ⟨q0,q1,q2,q3,q4,q5,q6,q7⟩:=zbj n;clear d i n u HX B x q)
  | (go_at_call 66;refine (r.o _ A.o).mono ?_;rintro el wl ⟨rfl,rfl⟩;clear r)
  | (go_at_call 106;refine (z.o _ A.o).mono ?_;rintro e3 w3 ⟨rfl,Y,Z⟩))
 first|go_end0|(refine qaf (qbb rfl _ _ _) rfl ?_)
 exact ⟨rfl,Y,U.o.trans Z⟩
theorem cond_or (X:Inv W0) (k:Nat) (hk:k<=16) (D:zms W0 g k) (f1 f2:ByteArray) (f3:List S47) (f4:List S68) (f5:List ByteArray) (f6:List S60) (f7:Int) (v:Value) (W:World) (s:PQ) (E:zes W0 ⟨6,f1,f2,f3,f4,f5,f6,f7⟩ v) (h:PrS W0 W g s) (j:s.bad=false) (m:zeq s=false) (O:Wide (k+1) ⟨6,f1,f2,f3,f4,f5,f6,f7⟩) (l:s.o.length+zdc (k+1) ⟨6,f1,f2,f3,f4,f5,f6,f7⟩<=140737488351232) :
  Calls prog 70 #[.pointer (some ⟨g,0,none⟩),v,.int .i64 (16-(k:Int))] W (PrE W0 W g (zbq (k+1) ⟨6,f1,f2,f3,f4,f5,f6,f7⟩ s)):=by
 have p:=zq E;obtain ⟨cs,G,rfl⟩:=E;have I:=zci G;simp only at I;obtain ⟨b,c3,c,c4,A5,c5,A6,c6,rfl,l3,g3,l4,g4,l5,g5,l6,g6⟩:=I;have ad:=h.lt;have HX:=zq (h.alloc (.cells #[.int .i64 6,.string f1,.string f2,.slice b f3.length c3,.slice c f4.length c4,.slice A5 f5.length c5,.slice A6 f6.length c6,.int .i64 f7] 60));have B:=zq ((Stp.refl W g).alloc ad (.cells #[.int .i64 6,.string f1,.string f2,.slice b f3.length c3,.slice c f4.length c4,.slice A5 f5.length c5,.slice A6 f6.length c6,.int .i64 f7] 60));have x:=zq (qab W (.cells #[.int .i64 6,.string f1,.string f2,.slice b f3.length c3,.slice c f4.length c4,.slice A5 f5.length c5,.slice A6 f6.length c6,.int .i64 f7] 60));have u:=zq (show ∀ w,PrS W0 w g s->Calls prog 65 #[.pointer (some ⟨g,0,none⟩),.bool true] w (PrE W0 w g s) from fun w h=>by have:=zbu W0 w g s true h;rwa [zfj] at this);have r:=zq (show ∀ w,PrS W0 w g s->Calls prog 66 #[.pointer (some ⟨g,0,none⟩)] w fun e w'=>e = .returned (.bool false)/\w'=w from fun w h=>by have:=zdi W0 w g s h kab;rwa [show decide (8000<s.o.length)=false from m] at this);have q:=zq (show ∀ w,PrS W0 w g s->w.cell? ⟨g,2,none⟩=some (.bool false) from fun w h=>by obtain ⟨_,_,_,_,a2,_⟩:=h.facts;rwa [j] at a2);have L:¬(s.bad||zeq s)=true:=by rw [j,m];decide
 have a6:(0:Int)<=16-(k:Int):=kab;have a7:16-(k:Int)<=16:=kab;have J:zbq (k+1) ⟨6,f1,f2,f3,f4,f5,f6,f7⟩ s=rowQ (zbq k) wOr 1 ⟨6,f1,f2,f3,f4,f5,f6,f7⟩ s:=by unfold zbq;rw [if_neg L,if_neg (show ¬(6:Int)=1 from by decide),if_neg (show ¬(6:Int)=2 from by decide),if_neg (show ¬(6:Int)=3 from by decide),if_neg (show ¬(6:Int)=4 from by decide),if_neg (show ¬(6:Int)=5 from by decide),if_pos rfl]
 rw [J];have af:s.o.length+1000+(f6.map fun y=>zdc k y+10).sum<=140737488351232:=by unfold zdc at l;dsimp only at l;omega
 have M:f6.length<=140737488351232:=by have:=zli (zdc k) f6;omega
 have z:=zq (fun w (h:PrS W0 w g s)=>show Calls prog 106 #[.pointer (some ⟨g,0,none⟩),_,.string ⟨#[111,114]⟩,.int .i64 1,.int .i64 (16-(k:Int))] w (PrE W0 w g (rowQ (zbq k) wOr 1 ⟨6,f1,f2,f3,f4,f5,f6,f7⟩ s)) from znd W0 g k hk D ⟨6,f1,f2,f3,f4,f5,f6,f7⟩ _ w s ⟨#[111,114]⟩ 1 p.o h (fun y hy=>O.2 y hy) kad M (by show _+(f6.map _).sum+20<=_;omega));generalize rowQ (zbq k) wOr 1 ⟨6,f1,f2,f3,f4,f5,f6,f7⟩ s=sf at z ⊢;clear h G l O X D p J af L j m g3 g4 g5 g6 l3 l4 l5 l6 M;go_enter func70,ntmps70;go_wp2_with (first
  | (go_at_call 65;refine (u.o _ HX.o).mono ?_;rintro e0 w0 ⟨rfl,d,i⟩;have n:=i.keep HX.o x.o kad kad;have A:=zq d;have U:=zq (B.o.trans i);have a1:=zq n;have p0:=q.o _ d;obtain ⟨q0,q1,q2,q3,q4,q5,q6,q7⟩:=zbj n;clear d i n u HX B x q)
  | (go_at_call 66;refine (r.o _ A.o).mono ?_;rintro el wl ⟨rfl,rfl⟩;clear r)
  | (go_at_call 106;refine (z.o _ A.o).mono ?_;rintro e3 w3 ⟨rfl,Y,Z⟩))
 first|go_end0|(refine qaf (qbb rfl _ _ _) rfl ?_)
 exact ⟨rfl,Y,U.o.trans Z⟩
theorem cond_atom (D:Inv W0) (k:Nat) (hk:k<=16) (U:zms W0 g k) (f0:Int) (f1 f2:ByteArray) (f3:List S47) (f4:List S68) (f5:List ByteArray) (f6:List S60) (f7:Int) (n1:¬f0=1) (n2:¬f0=2) (n3:¬f0=3) (n4:¬f0=4) (n5:¬f0=5) (n6:¬f0=6) (v:Value) (W:World) (s:PQ) (B:zes W0 ⟨f0,f1,f2,f3,f4,f5,f6,f7⟩ v) (h:PrS W0 W g s) (j:s.bad=false) (m:zeq s=false) (L:Wide (k+1) ⟨f0,f1,f2,f3,f4,f5,f6,f7⟩) (l:s.o.length+zdc (k+1) ⟨f0,f1,f2,f3,f4,f5,f6,f7⟩<=140737488351232) :
  Calls prog 70 #[.pointer (some ⟨g,0,none⟩),v,.int .i64 (16-(k:Int))] W (PrE W0 W g (zbq (k+1) ⟨f0,f1,f2,f3,f4,f5,f6,f7⟩ s)):=by
 have p:=zq B;obtain ⟨cs,E,rfl⟩:=B;have G:=zci E;simp only at G;obtain ⟨b,c3,c,c4,A5,c5,A6,c6,rfl,l3,g3,l4,g4,l5,g5,l6,g6⟩:=G;have Z:=h.lt;have HX:=zq (h.alloc (.cells #[.int .i64 f0,.string f1,.string f2,.slice b f3.length c3,.slice c f4.length c4,.slice A5 f5.length c5,.slice A6 f6.length c6,.int .i64 f7] 60));have A:=zq ((Stp.refl W g).alloc Z (.cells #[.int .i64 f0,.string f1,.string f2,.slice b f3.length c3,.slice c f4.length c4,.slice A5 f5.length c5,.slice A6 f6.length c6,.int .i64 f7] 60));have x:=zq (qab W (.cells #[.int .i64 f0,.string f1,.string f2,.slice b f3.length c3,.slice c f4.length c4,.slice A5 f5.length c5,.slice A6 f6.length c6,.int .i64 f7] 60));have u:=zq (show ∀ w,PrS W0 w g s->Calls prog 65 #[.pointer (some ⟨g,0,none⟩),.bool true] w (PrE W0 w g s) from fun w h=>by have:=zbu W0 w g s true h;rwa [zfj] at this);have r:=zq (show ∀ w,PrS W0 w g s->Calls prog 66 #[.pointer (some ⟨g,0,none⟩)] w fun e w'=>e = .returned (.bool false)/\w'=w from fun w h=>by have:=zdi W0 w g s h kab;rwa [show decide (8000<s.o.length)=false from m] at this);have q:=zq (show ∀ w,PrS W0 w g s->w.cell? ⟨g,2,none⟩=some (.bool false) from fun w h=>by obtain ⟨_,_,_,_,a2,_⟩:=h.facts;rwa [j] at a2);have J:¬(s.bad||zeq s)=true:=by rw [j,m];decide
 have af:(0:Int)<=16-(k:Int):=kab;have a1:16-(k:Int)<=16:=kab;have I:zbq (k+1) ⟨f0,f1,f2,f3,f4,f5,f6,f7⟩ s=zml ⟨f0,f1,f2,f3,f4,f5,f6,f7⟩ s:=by unfold zbq;rw [if_neg J,if_neg n1,if_neg n2,if_neg n3,if_neg n4,if_neg n5,if_neg n6]
 rw [I];have M:s.o.length+1000+30*f3.length+90*f4.length+(f5.map fun t=>t.size+10).sum<=140737488351232:=by unfold zdc at l;dsimp only at l;omega
 have y:=zq (fun w (h:PrS W0 w g s)=>atom_calls W0 w g s ⟨f0,f1,f2,f3,f4,f5,f6,f7⟩ _ D p.o h L.1 M);generalize zml ⟨f0,f1,f2,f3,f4,f5,f6,f7⟩ s=sf at y ⊢;clear h E l L D U p I M J j m g3 g4 g5 g6 l3 l4 l5 l6;go_enter func70,ntmps70;go_wp2_with (first
  | (go_at_call 65;refine (u.o _ HX.o).mono ?_;rintro e0 w0 ⟨rfl,d,i⟩;have n:=i.keep HX.o x.o kad kad;have z:=zq d;have O:=zq (A.o.trans i);have ad:=zq n;have p0:=q.o _ d;obtain ⟨q0,q1,q2,q3,q4,q5,q6,q7⟩:=zbj n;clear d i n u HX A x q)
  | (go_at_call 66;refine (r.o _ z.o).mono ?_;rintro el wl ⟨rfl,rfl⟩;clear r)
  | (go_at_call 107;refine (y.o _ z.o).mono ?_;rintro e3 w3 ⟨rfl,X,Y⟩))
 first|go_end0|(refine qaf (qbb rfl _ _ _) rfl ?_)
 exact ⟨rfl,X,O.o.trans Y⟩
theorem zqa (d:Int) (hd:d<=17) (M:0<=d) (x:S60) (v:Value) (W:World) (s:PQ) (I:zes W0 x v) (h:PrS W0 W g s) (G:s.o.length<=140737488351232) (hs:(s.must (decide (d<=16))).bad=true\/zeq s=true) :
  Calls prog 70 #[.pointer (some ⟨g,0,none⟩),v,.int .i64 d] W (PrE W0 W g (s.must (decide (d<=16)))):=by
 obtain ⟨cs,E,rfl⟩:=I;obtain ⟨A,c3,B,c4,A5,c5,A6,c6,rfl,-⟩:=zci E;have J:=h.lt;have HX:=zq (h.alloc (.cells #[.int .i64 x.f0,.string x.f1,.string x.f2,.slice A x.f3.length c3,.slice B x.f4.length c4,.slice A5 x.f5.length c5,.slice A6 x.f6.length c6,.int .i64 x.f7] 60));have u:=zq ((Stp.refl W g).alloc J (.cells #[.int .i64 x.f0,.string x.f1,.string x.f2,.slice A x.f3.length c3,.slice B x.f4.length c4,.slice A5 x.f5.length c5,.slice A6 x.f6.length c6,.int .i64 x.f7] 60));have k:=zq (fun w b (c:b=decide (d<=16)) (h:PrS W0 w g s)=>show Calls prog 65 #[.pointer (some ⟨g,0,none⟩),.bool b] w (PrE W0 w g (s.must (decide (d<=16)))) from c ▸ zbu W0 w g s _ h);have j:=zq (fun w (h:PrS W0 w g (s.must (decide (d<=16))))=>show w.cell? ⟨g,2,none⟩=some (.bool (s.must (decide (d<=16))).bad) from by obtain ⟨_,_,_,_,a2,_⟩:=h.facts;exact a2);have n:=zq (fun w (h:PrS W0 w g (s.must (decide (d<=16))))=>zdi W0 w g _ h (by rw [zbz];omega));have z:zeq (s.must (decide (d<=16)))=zeq s:=rfl;clear h E;by_cases c:(s.must (decide (d<=16))).bad=true
 ·rw [c] at j;clear hs z G n;generalize s.must (decide (d<=16))=L at k j c ⊢;clear c;by_cases r:d<=16
  ·have m:decide (d<=16)=true:=(by simpa using r);rw [m] at k;clear m;go_enter func70,ntmps70;go_wp2_with (go_at_call 65;refine (k.o _ _ rfl HX.o).mono ?_;rintro D w0 ⟨rfl,i,l⟩;have p0:=j.o _ i;have p:=zq i;have q:=zq (u.o.trans l);clear i l);(first|go_end0|(refine qaf (qbb rfl _ _ _) rfl ?_));exact ⟨rfl,p.o,q.o⟩
  have m:decide (d<=16)=false:=by simpa using r
  rw [m] at k;clear m;go_enter func70,ntmps70;go_wp2_with (go_at_call 65;refine (k.o _ _ rfl HX.o).mono ?_;rintro D w0 ⟨rfl,i,l⟩;have p0:=j.o _ i;have p:=zq i;have q:=zq (u.o.trans l);clear i l);first|go_end0|(refine qaf (qbb rfl _ _ _) rfl ?_)
  exact ⟨rfl,p.o,q.o⟩
 have c:(s.must (decide (d<=16))).bad=false:=by simpa using c
 have y:zeq s=true:=by
  rcases hs with h|h
  ·rw [h] at c;cases c
  exact h
 rw [c] at j;rw [<-z] at y;have n:=zq (show ∀ w,PrS W0 w g (s.must (decide (d<=16)))->Calls prog 66 #[.pointer (some ⟨g,0,none⟩)] w fun e w'=>e = .returned (.bool true)/\w'=w from fun w h=>by have:=n.o w h;rwa [show decide (8000<(s.must (decide (d<=16))).o.length)=true from y] at this);have r:d<=16:=by
  by_cases h:d<=16
  ·exact h
  rw [show decide (d<=16)=false by simpa using h] at c;simp [PQ.must] at c
 have m:decide (d<=16)=true:=by simpa using r
 rw [m] at k j n ⊢;clear hs z G y c m;generalize s.must true=L at k j n ⊢;go_enter func70,ntmps70;go_wp2_with (first
  | (go_at_call 65;refine (k.o _ _ rfl HX.o).mono ?_;rintro D w0 ⟨rfl,i,l⟩;have p0:=j.o _ i;have p:=zq i;have q:=zq (u.o.trans l);clear i l)
  | (go_at_call 66;refine (n.o _ p.o).mono ?_;rintro el O ⟨rfl,rfl⟩))
 first|go_end0|(refine qaf (qbb rfl _ _ _) rfl ?_)
 exact ⟨rfl,p.o,q.o⟩
theorem zld (i:Inv W0):∀ k,k<=17->zms W0 g k
 | 0,_=>by
  intro x v W s c h j d;have:=zqa W0 g 17 kab kab x v W s c h (by unfold zdc at d;omega) (.inl (by simp [PQ.must]));exact this
 | k+1,hk=>by
  have l:=zld i k kab;intro x v W s c h j d;have e:(17:Int)-((k+1:Nat):Int)=16-(k:Int):=kab;rw [e];by_cases b:(s.bad||zeq s)=true
  ·have w:zbq (k+1) x s=s:=(by unfold zbq;rw [if_pos b]);have h1:=zqa W0 g (16-(k:Int)) kab kab x v W s c h kab (by
    rw [Bool.or_eq_true] at b;rcases b with b|b
    ·exact .inl (by simp [PQ.must,b])
    exact .inr b)
   rw [show decide (16-(k:Int)<=16)=true by simp;omega,zfj] at h1;rwa [w]
  have m:s.bad=false:=by
   cases h:s.bad with
   | false=>rfl
   | true=>rw [h] at b;exact absurd rfl b
  have n:zeq s=false:=by
   cases h:zeq s with
   | false=>rfl
   | true=>rw [h,Bool.or_true] at b;exact absurd rfl b
  obtain ⟨f0,f1,f2,f3,f4,f5,f6,f7⟩:=x;by_cases h1:f0=1
  ·subst h1;exact cond_true W0 g i k kab l f1 f2 f3 f4 f5 f6 f7 v W s c h m n j d
  by_cases o:f0=2
  ·subst o;exact cond_false W0 g i k kab l f1 f2 f3 f4 f5 f6 f7 v W s c h m n j d
  by_cases p:f0=3
  ·subst p;exact cond_name W0 g i k kab l f1 f2 f3 f4 f5 f6 f7 v W s c h m n j d
  by_cases q:f0=4
  ·subst q;exact cond_not W0 g i k kab l f1 f2 f3 f4 f5 f6 f7 v W s c h m n j d
  by_cases r:f0=5
  ·subst r;exact cond_and W0 g i k kab l f1 f2 f3 f4 f5 f6 f7 v W s c h m n j d
  by_cases u:f0=6
  ·subst u;exact cond_or W0 g i k kab l f1 f2 f3 f4 f5 f6 f7 v W s c h m n j d
  exact cond_atom W0 g i k kab l f0 f1 f2 f3 f4 f5 f6 f7 h1 o p q r u v W s c h m n j d
end
end
end Go.Proofs.YtjeekocidaogoaaGreatDoor.H
