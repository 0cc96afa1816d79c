import Derived.Test.YtjeekocidaogoaaGreatDoorK7Addr
import Derived.Test.YtjeekocidaogoaaGreatDoorK7Atoms
set_option linter.unusedVariables false
set_option linter.unusedSimpArgs false
set_option maxRecDepth 100000
set_option maxHeartbeats 8000000
open Go.Proofs.Tryz
namespace Go.Proofs.YtjeekocidaogoaaGreatDoor.H
open Go.RowKit Go.Proofs.YtjeekocidaogoaaGreatDoor.Hand Go.Proofs.YtjeekocidaogoaaGreatDoorW.PrintWords Go.Proofs.YtjeekocidaogoaaGreatDoorW.PrintLast Go.Proofs.YtjeekocidaogoaaGreatDoorW.PrintMore
section
attribute [local go_sem] zdv zdt zel zek zcz zcy zdu zds
def slices_Index_string_string.l0:Nat->List ByteArray->ByteArray->Int->Int->Option (Int)
 | 0,_,_,_,_=>none
 | k+1,c,d,e,b=>if b<e then (if 0<=b then (if b<(c.length:Int) then (if d.toList=(rdOf ByteArray.empty c b).toList then (some b) else (slices_Index_string_string.l0 k c d e (wrap64 (b+1)))) else (none)) else (none)) else (some (-1))
def slices_Index_string_string.f (k:Nat) (l0:List ByteArray) (a1:ByteArray):Option (Int):=slices_Index_string_string.l0 k l0 a1 (l0.length:Int) 0
theorem slices_Index_string_string.mono_l:∀ k,(∀ b c d y3,LeO (slices_Index_string_string.l0 k b c d y3) (slices_Index_string_string.l0 (k+1) b c d y3))
 | 0=>fun _ _ _ _ r h=>by simp [slices_Index_string_string.l0] at h
 | k+1=>by
  have e:=slices_Index_string_string.mono_l k;intro b c d y3;unfold slices_Index_string_string.l0
  repeat' first
  | (with_reducible exact e _ _ _ _)
  | (with_reducible exact LeO.refl _)
  | (with_reducible exact LeO.none _)
  | (with_reducible refine LeO.ite ?_ ?_)
  | (with_reducible refine LeO.bind ?_ (fun _=>?_))
  | exact e _ _ _ _
  | exact LeO.none _
  | refine LeO.ite ?_ ?_
  | refine LeO.bind ?_ (fun _=>?_)
theorem slices_Index_string_string.mono:∀ a0 a1 k,LeO (slices_Index_string_string.f k a0 a1) (slices_Index_string_string.f (k+1) a0 a1):=by
 intro a0 a1 k;have b:=slices_Index_string_string.mono_l k;unfold slices_Index_string_string.f
 repeat' first
   | (with_reducible exact b _ _ _ _)
   | (with_reducible exact LeO.refl _)
   | (with_reducible exact LeO.none _)
   | (with_reducible refine LeO.ite ?_ ?_)
   | (with_reducible refine LeO.bind ?_ (fun _=>?_))
   | exact b _ _ _ _
   | exact LeO.none _
   | refine LeO.ite ?_ ?_
   | refine LeO.bind ?_ (fun _=>?_)
theorem slices_Index_string_string.calls (k:Nat) (m:Option Addr) (c0:Nat) (l0:List ByteArray) (a1:ByteArray) (r:Int) (w:World) (s:Kd.C Kd.string w m l0.length l0) (q:l0.length<=c0) (h:slices_Index_string_string.f k l0 a1=some r) :
  Calls prog 122 #[.slice m l0.length c0,.string a1] w fun e w'=>e = .returned (.int .i64 r)/\Drawn0 w w':=by
 have p:=zq s;have G:=zq q;clear s q;have H:(slices_Index_string_string.l0 k l0 a1 (l0.length:Int) 0)=some r:=h;clear h;have i:=zq H;clear H;go_enter func122,ntmps122;go_wp2;go_loopg [8] k (fun u E w'=>∃ (b:Int),E = .int .i64 b/\Zq (slices_Index_string_string.l0 u l0 a1 (l0.length:Int) b=some r)/\Zq (u<=k)/\Drawn0 w w');case atStart=>exact ⟨(0),kaf,i,⟨qad _⟩,by repeat (first|exact Drawn0.refl _|apply Drawn0.step)⟩
 case round=>
  clear i;try clear c1
  try clear p2
  obtain ⟨b,rfl,j,n,⟨m1,rfl⟩⟩:=hrel;cases gk with
  | zero=>exact absurd j.o (by simp [slices_Index_string_string.l0])
  | succ D=>
   have H:=j.o;clear j;simp only [slices_Index_string_string.l0] at H;by_cases c3:b<(l0.length:Int)
   ·rw [if_pos c3] at H;have y:decide (b<(l0.length:Int))=true:=qac c3;clear c3;by_cases c4:0<=b
    ·rw [if_pos c4] at H;have I:decide (0<=b)=true:=qac c4;clear c4;by_cases c5:b<(l0.length:Int)
     ·rw [if_pos c5] at H;have J:decide (b<(l0.length:Int))=true:=qac c5;clear c5;by_cases c6:a1.toList=(rdOf ByteArray.empty l0 b).toList
      ·rw [if_pos c6] at H;have z:(a1.toList==(rdOf ByteArray.empty l0 b).toList)=true:=qar.mpr c6;have A:(a1.toList !=(rdOf ByteArray.empty l0 b).toList)=false:=qaq.mpr c6;clear c6;obtain rfl:=qaa H;have c:0<=(b:Int):=kao;have d:b<(l0.length:Int):=kao;obtain ⟨x,l,B⟩:=Kd.at_string p.o b c d;cases l;replace c:=eq_true c;replace d:=eq_true d;go_wp2;go_ret;exact ⟨kaf,by repeat (first|exact Drawn0.refl _|apply Drawn0.step)⟩
      rw [if_neg c6] at H;have z:(a1.toList==(rdOf ByteArray.empty l0 b).toList)=false:=qah.mpr c6;have A:(a1.toList !=(rdOf ByteArray.empty l0 b).toList)=true:=qbc.mpr c6;have i:=zq H;clear H;have c:0<=(b:Int):=kao;have d:b<(l0.length:Int):=kao;obtain ⟨x,l,B⟩:=Kd.at_string p.o b c d;cases l;replace c:=eq_true c;replace d:=eq_true d;go_wp2
      go_roundg D
      case measure=>have:=n.o;omega
      case rel=>exact ⟨(wrap64 (b+1)),kaf,i,⟨by have:=n.o;omega⟩,by repeat (first|exact Drawn0.refl _|apply Drawn0.step)⟩
     rw [if_neg c5] at H;exact absurd H (by simp)
    rw [if_neg c4] at H;exact absurd H (by simp)
   rw [if_neg c3] at H;have y:decide (b<(l0.length:Int))=false:=qak c3;clear c3;obtain rfl:=qaa H;go_wp2;go_ret;exact ⟨kaf,by repeat (first|exact Drawn0.refl _|apply Drawn0.step)⟩
def slices_Contains_string_string.f (k:Nat) (l0:List ByteArray) (a1:ByteArray):Option (Bool):=(slices_Index_string_string.f k l0 a1).bind fun t123=>(some (decide (t123>=0)))
theorem slices_Contains_string_string.mono:∀ a0 a1 k,LeO (slices_Contains_string_string.f k a0 a1) (slices_Contains_string_string.f (k+1) a0 a1):=by
 intro a0 a1 k;unfold slices_Contains_string_string.f
 repeat' first
   | (with_reducible exact slices_Index_string_string.mono _ _ _)
   | (with_reducible exact LeO.refl _)
   | (with_reducible exact LeO.none _)
   | (with_reducible refine LeO.ite ?_ ?_)
   | (with_reducible refine LeO.bind ?_ (fun _=>?_))
   | exact slices_Index_string_string.mono _ _ _
   | exact LeO.none _
   | refine LeO.ite ?_ ?_
   | refine LeO.bind ?_ (fun _=>?_)
theorem slices_Contains_string_string.calls (k:Nat) (b:Option Addr) (c0:Nat) (l0:List ByteArray) (a1:ByteArray) (r:Bool) (w:World) (i:Kd.C Kd.string w b l0.length l0) (d:l0.length<=c0) (h:slices_Contains_string_string.f k l0 a1=some r) :
  Calls prog 97 #[.slice b l0.length c0,.string a1] w fun e w'=>e = .returned (.bool r)/\Drawn0 w w':=by
 have m:=zq i;have l:=zq d;clear i d;have H:((slices_Index_string_string.f k l0 a1).bind fun t123=>(some (decide (t123>=0))))=some r:=h;clear h;replace H:=qba.mp H;obtain ⟨t123,c,H⟩:=H;replace H:(some (decide (t123>=0)))=some r:=H;have j:=zq c;clear c;obtain rfl:=qaa H;go_enter func97,ntmps97;go_wp2_with (first|((with_reducible refine zar (f:=122) rfl ?_);refine zbs (some 7) rfl rfl func122 kae rfl #[.slice b l0.length c0,.string a1] rfl kac ?_;(with_reducible refine (slices_Index_string_string.calls k _ _ l0 a1 t123 _ ?side1 ?side2 j.o).mono ?_);(case side1=>repeat (first|exact m.o|(with_reducible refine Kd.C_alloc ?_ _)|(with_reducible refine Kd.C_drewN ?_ _)|(with_reducible refine Kd.C_drew ?_)));(case side2=>exact l.o);rintro e w' ⟨rfl,⟨n,rfl⟩⟩;refine ⟨_,rfl,?_⟩));go_ret;exact ⟨kaf,by repeat (first|exact Drawn0.refl _|apply Drawn0.step)⟩
def lex_IsWord.f (k:Nat) (a0:ByteArray):Option (Bool):=(strings_Fields.f (⟨#[108,101,116,32,97,108,108,111,119,32,100,101,110,121,32,119,104,101,110,32,97,110,100,32,111,114,32,110,111,116,32,116,114,117,101,32,102,97,108,115,101,32,105,110,32,97,100,100,114,32,112,111,114,116,32,109,101,116,104,111,100,32,112,97,116,104,32,104,101,97,100,101,114,32,104,97,115]⟩:ByteArray)).bind fun t124=>((slices_Contains_string_string.f k t124 a0).bind fun t127=>(some t127))
theorem lex_IsWord.mono:∀ a0 k,LeO (lex_IsWord.f k a0) (lex_IsWord.f (k+1) a0):=by
 intro a0 k;unfold lex_IsWord.f
 repeat' first
   | (with_reducible exact slices_Contains_string_string.mono _ _ _)
   | (with_reducible exact LeO.refl _)
   | (with_reducible exact LeO.none _)
   | (with_reducible refine LeO.ite ?_ ?_)
   | (with_reducible refine LeO.bind ?_ (fun _=>?_))
   | exact slices_Contains_string_string.mono _ _ _
   | exact LeO.none _
   | refine LeO.ite ?_ ?_
   | refine LeO.bind ?_ (fun _=>?_)
theorem lex_IsWord.calls (k:Nat) (a0:ByteArray) (r:Bool) (w:World) (d:Inv w) (h:lex_IsWord.f k a0=some r) :
  Calls prog 63 #[.string a0] w fun e w'=>e = .returned (.bool r)/\Below w.heap.size w w':=by
 have HB:=zq (qan w.heap.size w);have p:=zq d;clear d;have H:((strings_Fields.f (⟨#[108,101,116,32,97,108,108,111,119,32,100,101,110,121,32,119,104,101,110,32,97,110,100,32,111,114,32,110,111,116,32,116,114,117,101,32,102,97,108,115,101,32,105,110,32,97,100,100,114,32,112,111,114,116,32,109,101,116,104,111,100,32,112,97,116,104,32,104,101,97,100,101,114,32,104,97,115]⟩:ByteArray)).bind fun t124=>((slices_Contains_string_string.f k t124 a0).bind fun t127=>(some t127)))=some r:=h;clear h;obtain ⟨t124,l,H⟩:=kbd H;try dsimp only at H
 replace H:=qba.mp H;obtain ⟨t127,c,H⟩:=H;replace H:(some t127)=some r:=H;have m:=zq c;clear c;obtain rfl:=qaa H;go_enter func63,ntmps63;go_wp2_with (first|((with_reducible refine zar (f:=98) rfl ?_);refine zbs (some 3) rfl rfl func98 kae rfl #[.string (⟨#[108,101,116,32,97,108,108,111,119,32,100,101,110,121,32,119,104,101,110,32,97,110,100,32,111,114,32,110,111,116,32,116,114,117,101,32,102,97,108,115,101,32,105,110,32,97,100,100,114,32,112,111,114,116,32,109,101,116,104,111,100,32,112,97,116,104,32,104,101,97,100,101,114,32,104,97,115]⟩:ByteArray)] rfl kac ?_;(with_reducible refine (strings_Fields.calls (⟨#[108,101,116,32,97,108,108,111,119,32,100,101,110,121,32,119,104,101,110,32,97,110,100,32,111,114,32,110,111,116,32,116,114,117,101,32,102,97,108,115,101,32,105,110,32,97,100,100,114,32,112,111,114,116,32,109,101,116,104,111,100,32,112,97,116,104,32,104,101,97,100,101,114,32,104,97,115]⟩:ByteArray) t124 _ ?side1 l.o).mono ?_);(case side1=>exact Inv.below p.o kaa);rintro e z ⟨y,rfl,j,i⟩;refine ⟨_,rfl,?_⟩;have b:=zq (Kd.R_lower j (zat kaa));replace HB:=zq (zau kaa i);(try clear i);(try clear u);(try clear hk);(try clear hi);(try clear j);obtain ⟨n,q,s⟩:=Kd.R_slice b.o;subst s)|((with_reducible refine zar (f:=97) rfl ?_);refine zbs (some 5) rfl rfl func97 kae rfl #[.slice n t124.length q,.string a0] rfl kac ?_;(with_reducible refine (slices_Contains_string_string.calls k _ _ t124 a0 t127 _ ?side1 ?side2 m.o).mono ?_);(case side1=>repeat (first|exact (Kd.R_reads' b.o).2.2|(with_reducible refine Kd.C_alloc ?_ _)|(with_reducible refine Kd.C_drewN ?_ _)|(with_reducible refine Kd.C_drew ?_)));(case side2=>exact (Kd.R_reads' b.o).2.1);rintro e w' ⟨rfl,⟨x,rfl⟩⟩;refine ⟨_,rfl,?_⟩));go_ret;exact ⟨by first|rfl|(simp [zap,zao]<;>rfl)|(simp [*,zap,zao]<;>rfl),kaa⟩
def addr_ParsePrefix.f (a0:ByteArray):Option (Int×Int×Int):=(strings_Cut.f a0 (⟨#[47]⟩:ByteArray)).bind fun c=>((addr_Parse.f c.1).bind fun b=>(if c.2.2=true then ((addr_number.f c.2.1 32).bind fun d=>(if b.2=0 then (if d.2=true then ((addr_right.f b.1 d.1).bind fun t137=>(if t137=true then (some (b.1,d.1,0)) else (some (0,0,30)))) else (some (0,0,30))) else (some (0,0,30)))) else (if b.2=0 then ((addr_right.f b.1 32).bind fun t138=>(if t138=true then (some (b.1,32,0)) else (some (0,0,30)))) else (some (0,0,30)))))
theorem addr_ParsePrefix.calls (a0:ByteArray) (r1:Int) (r2:Int) (r3:Int) (w:World) (Z:Inv w) (h:addr_ParsePrefix.f a0=some (r1,r2,r3)) :
  Calls prog 100 #[.string a0] w fun e w'=>e = .returned (.tuple #[.agg #[.int .i64 r1,.int .i64 r2],.int .i64 r3])/\Below w.heap.size w w':=by
 have aJ:=underlying47;have HB:=zq (qan w.heap.size w);have p:=zq Z;clear Z;have H:((strings_Cut.f a0 (⟨#[47]⟩:ByteArray)).bind fun O=>((addr_Parse.f O.1).bind fun q=>(if O.2.2=true then ((addr_number.f O.2.1 32).bind fun U=>(if q.2=0 then (if U.2=true then ((addr_right.f q.1 U.1).bind fun t137=>(if t137=true then (some (q.1,U.1,0)) else (some (0,0,30)))) else (some (0,0,30))) else (some (0,0,30)))) else (if q.2=0 then ((addr_right.f q.1 32).bind fun t138=>(if t138=true then (some (q.1,32,0)) else (some (0,0,30)))) else (some (0,0,30))))))=some (r1,r2,r3):=h;clear h;obtain ⟨⟨t129,t130,t131⟩,X,H⟩:=kbd H;try dsimp only at H
 obtain ⟨⟨t132,t133⟩,A3,H⟩:=kbd H;try dsimp only at H
 by_cases c4:t131=true
 focus
  subst c4;rw [if_pos rfl] at H;obtain ⟨⟨t135,t136⟩,A5,H⟩:=kbd H;try dsimp only at H
  by_cases c6:t133=0
  focus
   rw [if_pos c6] at H;have a1:(t133==0)=true:=qar.mpr c6;have a6:(t133 !=0)=false:=qaq.mpr c6;clear c6;by_cases c7:t136=true
   focus
    subst c7;rw [if_pos rfl] at H;obtain ⟨t137,A8,H⟩:=kbd H;(try dsimp only at H);by_cases c9:t137=true
    focus
     subst c9;rw [if_pos rfl] at H;simp only [qai,qap] at H;obtain ⟨rfl,rfl,rfl⟩:=H;have y:=trivial
    rotate_right
    focus
     obtain rfl:=qbf.mpr c9;rw [if_neg kft] at H;simp only [qai,qap] at H;obtain ⟨rfl,rfl,rfl⟩:=H;have z:=trivial
   rotate_right
   focus
    obtain rfl:=qbf.mpr c7;rw [if_neg kft] at H;simp only [qai,qap] at H;obtain ⟨rfl,rfl,rfl⟩:=H;have G:=trivial
  rotate_right
  focus
   rw [if_neg c6] at H;have a1:(t133==0)=false:=qah.mpr c6;have a6:(t133 !=0)=true:=qbc.mpr c6;simp only [qai,qap] at H;obtain ⟨rfl,rfl,rfl⟩:=H;have I:=trivial
 rotate_right
 focus
  obtain rfl:=qbf.mpr c4;rw [if_neg kft] at H;by_cases c49:t133=0
  focus
   rw [if_pos c49] at H;have ad:(t133==0)=true:=qar.mpr c49;have af:(t133 !=0)=false:=qaq.mpr c49;clear c49;obtain ⟨t138,Y,H⟩:=kbd H;(try dsimp only at H);by_cases c51:t138=true
   focus
    subst c51;rw [if_pos rfl] at H;simp only [qai,qap] at H;obtain ⟨rfl,rfl,rfl⟩:=H;have J:=trivial
   rotate_right
   focus
    obtain rfl:=qbf.mpr c51;rw [if_neg kft] at H;simp only [qai,qap] at H;obtain ⟨rfl,rfl,rfl⟩:=H;have L:=trivial
  rotate_right
  focus
   rw [if_neg c49] at H;have ad:(t133==0)=false:=qah.mpr c49;have af:(t133 !=0)=true:=qbc.mpr c49;simp only [qai,qap] at H;obtain ⟨rfl,rfl,rfl⟩:=H;have W:=trivial
 all_goals (go_enter func100,ntmps100;go_wp2_with (first|((with_reducible refine zcf (N:=2) rfl ?_);refine zcb ?hg (N:=2) ?hd (cs:=#[.int .i64 0,.int .i64 0]) (t:=47) ?hr ?_;(case hd=>rfl);(case hg=>rfl);(case hr=>first|(go_simp;done)|(go_simp;rfl));intro c hg aK l b;have ah:=zq l;have bg:=zq (kge hg (zat kaa):w.heap.size<=c);replace HB:=zq (zau kaa b);clear b l hg)|((first|have i:=y|have i:=z|have i:=G|have i:=I);(with_reducible refine zar (f:=126) rfl ?_);refine zbs (some 13) rfl rfl func126 kae rfl #[.string a0,.string (⟨#[47]⟩:ByteArray)] rfl kac ?_;(with_reducible refine (strings_Cut.calls a0 (⟨#[47]⟩:ByteArray) t129 t130 true _ ?side1 X.o).mono ?_);(case side1=>exact Inv.below p.o kal);rintro e aE ⟨rfl,b⟩;refine ⟨_,rfl,?_⟩;replace ah:=zq (zaq (g:=c) (o := .cells #[.int .i64 0,.int .i64 0] 47 (0,0)) kas b);replace HB:=zq (zau kal b);(try clear b);(try clear k);(try clear hk);(try clear hi))|((with_reducible refine zar (f:=127) rfl ?_);refine zbs (some 19) rfl rfl func127 kae rfl #[.string t129] rfl kac ?_;(with_reducible refine (addr_Parse.calls t129 t132 t133 _ ?side1 A3.o).mono ?_);(case side1=>exact Inv.below p.o kal);rintro e aL ⟨rfl,b⟩;refine ⟨_,rfl,?_⟩;replace ah:=zq (zaq (g:=c) (o := .cells #[.int .i64 0,.int .i64 0] 47 (0,0)) kas b);replace HB:=zq (zau kal b);(try clear b);(try clear k);(try clear hk);(try clear hi))|((first|have i:=y|have i:=z|have i:=G|have i:=I|have i:=J|have i:=L);(with_reducible refine zcf (N:=9) rfl ?_);refine zcb ?hg (N:=9) ?hd (cs:=#[.int .i64 0,.int .i64 0]) (t:=47) ?hr ?_;(case hd=>rfl);(case hg=>rfl);(case hr=>first|(go_simp;done)|(go_simp;rfl));intro d hg m l b;have ai:=zq l;have bh:=zq (kge hg (zat kal):w.heap.size<=d);have ar:=zq ((by rw [hg];exact Nat.ne_of_lt (zam (g:=c) (o := .cells #[.int .i64 0,.int .i64 0] 47 (0,0)) kas):c≠d));have M:=zq ((by rw [hg];exact Nat.ne_of_gt (zam (g:=c) (o := .cells #[.int .i64 0,.int .i64 0] 47 (0,0)) kas):d≠c));replace ah:=zq (zaq (g:=c) (o := .cells #[.int .i64 0,.int .i64 0] 47 (0,0)) kas b);replace HB:=zq (zau kal b);clear b l hg;have aC:=M.o;have aD:=ar.o;have a7:m.cell? ⟨d,0,none⟩=some (.int .i64 0):=(zab ai.o 0).trans rfl;have a8:m.cell? ⟨d,1,none⟩=some (.int .i64 0):=(zab ai.o 1).trans rfl;have aA:=zac ai.o 0;have aB:=zac ai.o 1)|((first|have i:=y|have i:=z);(with_reducible refine zar (f:=128) rfl ?_);refine zbs (some 27) rfl rfl func128 kae rfl #[.string t130,.int .i64 32] rfl kac ?_;(with_reducible refine (addr_number.calls t130 32 t135 true _ ?side1 A5.o).mono ?_);(case side1=>exact Inv.below p.o kam);rintro e j ⟨rfl,b⟩;refine ⟨_,rfl,?_⟩;replace ah:=zq (zaq (g:=c) (o := .cells #[.int .i64 0,.int .i64 0] 47 (0,0)) kap b);replace ai:=zq (zaq (g:=d) (o := .cells #[.int .i64 t132,.int .i64 32] 47 (0,0)) kai b);replace HB:=zq (zau kam b);(try clear b);(try clear k);(try clear hk);(try clear hi);have r:j.cell? ⟨d,0,none⟩=some (.int .i64 t132):=(zab ai.o 0).trans rfl;have s:j.cell? ⟨d,1,none⟩=some (.int .i64 32):=(zab ai.o 1).trans rfl;have u:=zac ai.o 0;have x:=zac ai.o 1)|(have i:=y;go_at_call 129;(with_reducible refine (addr_right.calls t132 t135 _ _ A8.o).mono ?_);rintro e n ⟨rfl,b⟩;replace ah:=zq (zaq (g:=c) (o := .cells #[.int .i64 0,.int .i64 0] 47 (0,0)) kbw b);replace ai:=zq (zaq (g:=d) (o := .cells #[.int .i64 t132,.int .i64 t135] 47 (0,0)) kbr b);replace HB:=zq (zau kam b);(try clear b);(try clear k);(try clear hk);(try clear hi);have A:n.cell? ⟨d,0,none⟩=some (.int .i64 t132):=(zab ai.o 0).trans rfl;have B:n.cell? ⟨d,1,none⟩=some (.int .i64 t135):=(zab ai.o 1).trans rfl;have D:=zac ai.o 0;have E:=zac ai.o 1;have aF:n.cell? ⟨c,0,none⟩=some (.int .i64 0):=(zab ah.o 0).trans rfl;have aG:n.cell? ⟨c,1,none⟩=some (.int .i64 0):=(zab ah.o 1).trans rfl;have aH:=zac ah.o 0;have aI:=zac ah.o 1)|(have i:=z;go_at_call 129;(with_reducible refine (addr_right.calls t132 t135 _ _ A8.o).mono ?_);rintro e n ⟨rfl,b⟩;replace ah:=zq (zaq (g:=c) (o := .cells #[.int .i64 0,.int .i64 0] 47 (0,0)) kbw b);replace ai:=zq (zaq (g:=d) (o := .cells #[.int .i64 t132,.int .i64 t135] 47 (0,0)) kbr b);replace HB:=zq (zau kam b);(try clear b);(try clear k);(try clear hk);(try clear hi);have A:n.cell? ⟨c,0,none⟩=some (.int .i64 0):=(zab ah.o 0).trans rfl;have B:n.cell? ⟨c,1,none⟩=some (.int .i64 0):=(zab ah.o 1).trans rfl;have D:=zac ah.o 0;have E:=zac ah.o 1)|(have i:=G;(with_reducible refine zar (f:=128) rfl ?_);refine zbs (some 27) rfl rfl func128 kae rfl #[.string t130,.int .i64 32] rfl kac ?_;(with_reducible refine (addr_number.calls t130 32 t135 false _ ?side1 A5.o).mono ?_);(case side1=>exact Inv.below p.o kam);rintro e j ⟨rfl,b⟩;refine ⟨_,rfl,?_⟩;replace ah:=zq (zaq (g:=c) (o := .cells #[.int .i64 0,.int .i64 0] 47 (0,0)) kap b);replace ai:=zq (zaq (g:=d) (o := .cells #[.int .i64 t132,.int .i64 32] 47 (0,0)) kai b);replace HB:=zq (zau kam b);(try clear b);(try clear k);(try clear hk);(try clear hi);have r:j.cell? ⟨d,0,none⟩=some (.int .i64 t132):=(zab ai.o 0).trans rfl;have s:j.cell? ⟨d,1,none⟩=some (.int .i64 32):=(zab ai.o 1).trans rfl;have u:=zac ai.o 0;have x:=zac ai.o 1;have A:j.cell? ⟨c,0,none⟩=some (.int .i64 0):=(zab ah.o 0).trans rfl;have B:j.cell? ⟨c,1,none⟩=some (.int .i64 0):=(zab ah.o 1).trans rfl;have D:=zac ah.o 0;have E:=zac ah.o 1)|(have i:=I;(with_reducible refine zar (f:=128) rfl ?_);refine zbs (some 27) rfl rfl func128 kae rfl #[.string t130,.int .i64 32] rfl kac ?_;(with_reducible refine (addr_number.calls t130 32 t135 t136 _ ?side1 A5.o).mono ?_);(case side1=>exact Inv.below p.o kam);rintro e j ⟨rfl,b⟩;refine ⟨_,rfl,?_⟩;replace ah:=zq (zaq (g:=c) (o := .cells #[.int .i64 0,.int .i64 0] 47 (0,0)) kap b);replace ai:=zq (zaq (g:=d) (o := .cells #[.int .i64 t132,.int .i64 32] 47 (0,0)) kai b);replace HB:=zq (zau kam b);(try clear b);(try clear k);(try clear hk);(try clear hi);have r:j.cell? ⟨d,0,none⟩=some (.int .i64 t132):=(zab ai.o 0).trans rfl;have s:j.cell? ⟨d,1,none⟩=some (.int .i64 32):=(zab ai.o 1).trans rfl;have u:=zac ai.o 0;have x:=zac ai.o 1;have A:j.cell? ⟨c,0,none⟩=some (.int .i64 0):=(zab ah.o 0).trans rfl;have B:j.cell? ⟨c,1,none⟩=some (.int .i64 0):=(zab ah.o 1).trans rfl;have D:=zac ah.o 0;have E:=zac ah.o 1)|((first|have i:=J|have i:=L|have i:=W);(with_reducible refine zar (f:=126) rfl ?_);refine zbs (some 13) rfl rfl func126 kae rfl #[.string a0,.string (⟨#[47]⟩:ByteArray)] rfl kac ?_;(with_reducible refine (strings_Cut.calls a0 (⟨#[47]⟩:ByteArray) t129 t130 false _ ?side1 X.o).mono ?_);(case side1=>exact Inv.below p.o kal);rintro e aE ⟨rfl,b⟩;refine ⟨_,rfl,?_⟩;replace ah:=zq (zaq (g:=c) (o := .cells #[.int .i64 0,.int .i64 0] 47 (0,0)) kas b);replace HB:=zq (zau kal b);(try clear b);(try clear k);(try clear hk);(try clear hi))|(have i:=J;go_at_call 129;(with_reducible refine (addr_right.calls t132 32 _ _ Y.o).mono ?_);rintro e j ⟨rfl,b⟩;replace ah:=zq (zaq (g:=c) (o := .cells #[.int .i64 0,.int .i64 0] 47 (0,0)) kap b);replace ai:=zq (zaq (g:=d) (o := .cells #[.int .i64 t132,.int .i64 32] 47 (0,0)) kai b);replace HB:=zq (zau kam b);(try clear b);(try clear k);(try clear hk);(try clear hi);have r:j.cell? ⟨d,0,none⟩=some (.int .i64 t132):=(zab ai.o 0).trans rfl;have s:j.cell? ⟨d,1,none⟩=some (.int .i64 32):=(zab ai.o 1).trans rfl;have u:=zac ai.o 0;have x:=zac ai.o 1;have A:j.cell? ⟨c,0,none⟩=some (.int .i64 0):=(zab ah.o 0).trans rfl;have B:j.cell? ⟨c,1,none⟩=some (.int .i64 0):=(zab ah.o 1).trans rfl;have D:=zac ah.o 0;have E:=zac ah.o 1)|(have i:=L;go_at_call 129;(with_reducible refine (addr_right.calls t132 32 _ _ Y.o).mono ?_);rintro e j ⟨rfl,b⟩;replace ah:=zq (zaq (g:=c) (o := .cells #[.int .i64 0,.int .i64 0] 47 (0,0)) kap b);replace ai:=zq (zaq (g:=d) (o := .cells #[.int .i64 t132,.int .i64 32] 47 (0,0)) kai b);replace HB:=zq (zau kam b);(try clear b);(try clear k);(try clear hk);(try clear hi);have r:j.cell? ⟨c,0,none⟩=some (.int .i64 0):=(zab ah.o 0).trans rfl;have s:j.cell? ⟨c,1,none⟩=some (.int .i64 0):=(zab ah.o 1).trans rfl;have u:=zac ah.o 0;have x:=zac ah.o 1)|(have i:=W;(with_reducible refine zcf (N:=9) rfl ?_);refine zcb ?hg (N:=9) ?hd (cs:=#[.int .i64 0,.int .i64 0]) (t:=47) ?hr ?_;(case hd=>rfl);(case hg=>rfl);(case hr=>first|(go_simp;done)|(go_simp;rfl));intro d hg m l b;have ai:=zq l;have bh:=zq (kge hg (zat kal):w.heap.size<=d);have ar:=zq ((by rw [hg];exact Nat.ne_of_lt (zam (g:=c) (o := .cells #[.int .i64 0,.int .i64 0] 47 (0,0)) kas):c≠d));have M:=zq ((by rw [hg];exact Nat.ne_of_gt (zam (g:=c) (o := .cells #[.int .i64 0,.int .i64 0] 47 (0,0)) kas):d≠c));replace ah:=zq (zaq (g:=c) (o := .cells #[.int .i64 0,.int .i64 0] 47 (0,0)) kas b);replace HB:=zq (zau kal b);clear b l hg;have aC:=M.o;have aD:=ar.o;have a7:m.cell? ⟨d,0,none⟩=some (.int .i64 0):=(zab ai.o 0).trans rfl;have a8:m.cell? ⟨d,1,none⟩=some (.int .i64 0):=(zab ai.o 1).trans rfl;have aA:=zac ai.o 0;have aB:=zac ai.o 1;have r:m.cell? ⟨c,0,none⟩=some (.int .i64 0):=(zab ah.o 0).trans rfl;have s:m.cell? ⟨c,1,none⟩=some (.int .i64 0):=(zab ah.o 1).trans rfl;have u:=zac ah.o 0;have x:=zac ah.o 1));(first|(have i:=y;(refine qaf (zbg rfl _ _ c 47 #[.int .i64 t132,.int .i64 t135] (0,0) _ rfl kbb underlying47 rfl kae) rfl ?_);(exact ⟨by first|rfl|(simp [zap,zao]<;>rfl)|(simp [*,zap,zao]<;>rfl),kam⟩))|((first|have i:=z|have i:=L);(refine qaf (zbg rfl _ _ c 47 #[.int .i64 0,.int .i64 0] (0,0) _ rfl (by (with_reducible repeat (first|refine zah ?_ _|refine zak ?_|refine zaf ?_ _));refine zan (cs:=#[.int .i64 0,.int .i64 0]) ?_ 1 _ rfl;(with_reducible repeat (first|refine zah ?_ _|refine zak ?_|refine zaf ?_ _));refine zan (cs:=#[.int .i64 0,.int .i64 0]) ?_ 0 _ rfl;(with_reducible repeat (first|refine zah ?_ _|refine zak ?_|refine zaf ?_ _));exact ah.o) underlying47 rfl kae) rfl ?_);(exact ⟨by first|rfl|(simp [zap,zao]<;>rfl)|(simp [*,zap,zao]<;>rfl),kam⟩))|((first|have i:=G|have i:=I);(refine qaf (zbg rfl _ _ c 47 #[.int .i64 0,.int .i64 0] (0,0) _ rfl (by (with_reducible repeat (first|refine zah ?_ _|refine zak ?_|refine zaf ?_ _));refine zan (cs:=#[.int .i64 0,.int .i64 0]) ?_ 1 _ rfl;(with_reducible repeat (first|refine zah ?_ _|refine zak ?_|refine zaf ?_ _));refine zan (cs:=#[.int .i64 0,.int .i64 0]) ?_ 0 _ rfl;(with_reducible repeat (first|refine zah ?_ _|refine zak ?_|refine zaf ?_ _));refine zav ?_ ar.o _;(with_reducible repeat (first|refine zah ?_ _|refine zak ?_|refine zaf ?_ _));exact ah.o) underlying47 rfl kae) rfl ?_);(exact ⟨by first|rfl|(simp [zap,zao]<;>rfl)|(simp [*,zap,zao]<;>rfl),kam⟩))|(have i:=J;(refine qaf (zbg rfl _ _ c 47 #[.int .i64 t132,.int .i64 32] (0,0) _ rfl kbb underlying47 rfl kae) rfl ?_);(exact ⟨by first|rfl|(simp [zap,zao]<;>rfl)|(simp [*,zap,zao]<;>rfl),kam⟩))|(have i:=W;(refine qaf (zbg rfl _ _ c 47 #[.int .i64 0,.int .i64 0] (0,0) _ rfl (by (with_reducible repeat (first|refine zah ?_ _|refine zak ?_|refine zaf ?_ _));refine zan (cs:=#[.int .i64 0,.int .i64 0]) ?_ 1 _ rfl;(with_reducible repeat (first|refine zah ?_ _|refine zak ?_|refine zaf ?_ _));refine zan (cs:=#[.int .i64 0,.int .i64 0]) ?_ 0 _ rfl;(repeat (first|(with_reducible refine zah ?_ _)|(with_reducible refine zak ?_)|(with_reducible refine zaf ?_ _)|refine zav ?_ ar.o _));(with_reducible repeat (first|refine zah ?_ _|refine zak ?_|refine zaf ?_ _));exact ah.o) underlying47 rfl kae) rfl ?_);(exact ⟨by first|rfl|(simp [zap,zao]<;>rfl)|(simp [*,zap,zao]<;>rfl),kam⟩))))
end
section
attribute [local go_sem] zdv zdt zel zek zcz zcy zdu zds
def lex_numbered.f (a0:ByteArray):Option (Int×ByteArray×Int×Int×Int×Int×Bool):=
 (strings_ContainsAny.f a0 ⟨#[46,47]⟩).bind fun c=>
  if c=true then (addr_ParsePrefix.f a0).bind fun p=>some (5,(⟨#[]⟩:ByteArray),0,p.1,p.2.1,0,p.2.2==0)
  else if a0.size<=281474976710656 then
   some (match Lib.atoiAll a0.data.toList with
    | .ok v=>(4,(⟨#[]⟩:ByteArray),v,0,0,0,decide (v<=4294967295)&&(Lib.itoa v==a0.toList))
    | .range=>(4,(⟨#[]⟩:ByteArray),Lib.atoiSat a0.data.toList,0,0,0,false)
    | _=>(4,(⟨#[]⟩:ByteArray),0,0,0,0,false))
  else none
theorem zjb {w:World} {g:Nat} (h:w.heap[g]?=some (.cells #[.int .i64 0,.string ⟨#[]⟩,.int .i64 0,.int .i64 0,.int .i64 0,.int .i64 0] 49 (0,0))) :
  w.cell? ⟨g,0,none⟩=some (.int .i64 0)/\w.cell? ⟨g,1,none⟩=some (.string ⟨#[]⟩)/\w.cell? ⟨g,2,none⟩=some (.int .i64 0)/\w.cell? ⟨g,3,none⟩=some (.int .i64 0)/\w.cell? ⟨g,4,none⟩=some (.int .i64 0)/\w.cell? ⟨g,5,none⟩=some (.int .i64 0) /\
  w.frozen? ⟨g,0,none⟩=false/\w.frozen? ⟨g,1,none⟩=false/\w.frozen? ⟨g,2,none⟩=false/\w.frozen? ⟨g,3,none⟩=false/\w.frozen? ⟨g,4,none⟩=false/\w.frozen? ⟨g,5,none⟩=false:=
 ⟨zab h 0,zab h 1,zab h 2,zab h 3,zab h 4,zab h 5,zac h 0,zac h 1,zac h 2,zac h 3,zac h 4,zac h 5⟩
theorem zhr {w:World} {g:Nat} (h:w.heap[g]?=some (.cells #[.int .i64 0,.string ⟨#[]⟩,.int .i64 0,.int .i64 0,.int .i64 0,.int .i64 0] 49 (0,0))) (v0 v1 v2 v3 v4 v5:Value) :
  ((((((w.setCell ⟨g,0,none⟩ v0).setCell ⟨g,1,none⟩ v1).setCell ⟨g,2,none⟩ v2).setCell ⟨g,3,none⟩ v3).setCell ⟨g,4,none⟩ v4).setCell ⟨g,5,none⟩ v5).heap[g]?=some (.cells #[v0,v1,v2,v3,v4,v5] 49 (0,0)):=
 zan (zan (zan (zan (zan (zan h 0 v0 rfl) 1 v1 rfl) 2 v2 rfl) 3 v3 rfl) 4 v4 rfl) 5 v5 rfl
def zuc (w:World) (n:Int) (b:Bool) (e:Ending) (w':World):Prop:=e = .returned (.tuple #[.agg #[.int .i64 4,.string ⟨#[]⟩,.int .i64 n,.int .i64 0,.int .i64 0,.int .i64 0],.bool b])/\Below w.heap.size w w'
theorem lex_numbered.ok (a0:ByteArray) (v:Int) (w:World) (z:Hand.Inv w) (A:strings_ContainsAny.f a0 ⟨#[46,47]⟩=some false) (h1:a0.size<=281474976710656) (s:Lib.atoiAll a0.data.toList = .ok v) :
  Calls prog 64 #[.string a0] w (zuc w v (decide (v<=4294967295)&&(Lib.itoa v==a0.toList))):=by
 have y:=zq (fun w=>Tryz.strconv_Atoi_ok a0 kab v s w);have HD:=zq (Lib.atoiAll_bounds s);have D:=zq z;have u:=zq A;clear s z h1 A;by_cases c1:v<=4294967295
 ·have q:Hid ((decide (v<=4294967295)&&(Lib.itoa v==a0.toList))=(Lib.itoa v==a0.toList)):=by show _=_;simp [c1]
  rw [q.out];go_enter func64,ntmps64;have j:=(qan w.heap.size w).alloc (qad _) (.cells #[.int .i64 0,.string ⟨#[]⟩,.int .i64 0,.int .i64 0,.int .i64 0,.int .i64 0] 49);have k:=ziw w (.cells #[.int .i64 0,.string ⟨#[]⟩,.int .i64 0,.int .i64 0,.int .i64 0,.int .i64 0] 49);have i:=zq j;have n:=zq k;clear j k;go_wp2_with (go_at_call 99;refine (strings_ContainsAny.calls _ _ false _ u.o).mono ?_;rintro e w1 ⟨rfl,c⟩;have p:=zq (zaq n.o c);have am:=zq (i.o.trans (c.mono i.o.size));clear c);go_wp2_with (go_at_call 101;refine (y.o _).mono ?_;rintro e l ⟨rfl,b⟩;have d:Below w1.heap.size w1 l:=(by rcases b with rfl|⟨t,rfl⟩;exact qan _ _;exact Lib.bytesWorld_below _ _ _);have m:=zq (zaq p.o d);have aj:=zq (am.o.trans (d.mono am.o.size));clear b d);go_wp2_with (go_at_call 102;refine (Tryz.strconv_Itoa v (HD.o).1 (HD.o).2 _ (D.o.below aj.o).pow10).mono ?_;rintro e E ⟨rfl,G,os,b⟩;have r:Below l.heap.size l E:=(by rw [b];exact zkd (qan _ _) (qad _) _ _);have x:=zq (zaq m.o r);have B:=zq (aj.o.trans (r.mono aj.o.size));obtain ⟨c0,c1,c2,c3,c4,c5,f0,f1,f2,f3,f4,f5⟩:=zjb x.o;clear b r);refine qaf (zbg rfl _ _ w.heap.size 49 #[.int .i64 4,.string ⟨#[]⟩,.int .i64 v,.int .i64 0,.int .i64 0,.int .i64 0] (0,0) _ rfl (zhr x.o _ _ _ _ _ _) underlying49 rfl kae) rfl ?_;exact ⟨rfl,(((((((B.o.setCell (qad _) _).setCell (qad _) _).setCell (qad _) _).setCell (qad _) _).setCell (qad _) _).setCell (qad _) _))⟩
 have q:Hid ((decide (v<=4294967295)&&(Lib.itoa v==a0.toList))=false):=by show _=_;simp [c1]
 rw [q.out];go_enter func64,ntmps64;have j:=(qan w.heap.size w).alloc (qad _) (.cells #[.int .i64 0,.string ⟨#[]⟩,.int .i64 0,.int .i64 0,.int .i64 0,.int .i64 0] 49);have k:=ziw w (.cells #[.int .i64 0,.string ⟨#[]⟩,.int .i64 0,.int .i64 0,.int .i64 0,.int .i64 0] 49);have i:=zq j;have n:=zq k;clear j k;go_wp2_with (go_at_call 99;refine (strings_ContainsAny.calls _ _ false _ u.o).mono ?_;rintro e w1 ⟨rfl,c⟩;have p:=zq (zaq n.o c);have am:=zq (i.o.trans (c.mono i.o.size));clear c);go_wp2_with (go_at_call 101;refine (y.o _).mono ?_;rintro e l ⟨rfl,b⟩;have d:Below w1.heap.size w1 l:=(by rcases b with rfl|⟨t,rfl⟩;exact qan _ _;exact Lib.bytesWorld_below _ _ _);have m:=zq (zaq p.o d);have aj:=zq (am.o.trans (d.mono am.o.size));obtain ⟨c0,c1,c2,c3,c4,c5,f0,f1,f2,f3,f4,f5⟩:=zjb m.o;clear b d);go_wp2;refine qaf (zbg rfl _ _ w.heap.size 49 #[.int .i64 4,.string ⟨#[]⟩,.int .i64 v,.int .i64 0,.int .i64 0,.int .i64 0] (0,0) _ rfl (zhr m.o _ _ _ _ _ _) underlying49 rfl kae) rfl ?_;exact ⟨rfl,(((((((aj.o.setCell (qad _) _).setCell (qad _) _).setCell (qad _) _).setCell (qad _) _).setCell (qad _) _).setCell (qad _) _))⟩
theorem lex_numbered.err (a0:ByteArray) (n:Int) (w:World) (p:∀ w,Hand.Inv w->Calls prog 101 #[.string a0] w (AtoiErr n w)) (l:Hand.Inv w) (m:strings_ContainsAny.f a0 ⟨#[46,47]⟩=some false) :
  Calls prog 64 #[.string a0] w (zuc w n false):=by
  have x:=zq p;have u:=zq l;have q:=zq m;clear p l m;go_enter func64,ntmps64;have j:=(qan w.heap.size w).alloc (qad _) (.cells #[.int .i64 0,.string ⟨#[]⟩,.int .i64 0,.int .i64 0,.int .i64 0,.int .i64 0] 49);have k:=ziw w (.cells #[.int .i64 0,.string ⟨#[]⟩,.int .i64 0,.int .i64 0,.int .i64 0,.int .i64 0] 49);have d:=zq j;have r:=zq k;clear j k;go_wp2_with (go_at_call 99;refine (strings_ContainsAny.calls _ _ false _ q.o).mono ?_;rintro e w1 ⟨rfl,b⟩;have s:=zq (zaq r.o b);have am:=zq (d.o.trans (b.mono d.o.size));clear b);go_wp2_with (go_at_call 101;refine (x.o _ (u.o.below am.o)).mono ?_;rintro e y ⟨N,rfl,c⟩;have i:=zq (zaq s.o c);have aj:=zq (am.o.trans (c.mono am.o.size));obtain ⟨c0,c1,c2,c3,c4,c5,f0,f1,f2,f3,f4,f5⟩:=zjb i.o;clear c);go_wp2;refine qaf (zbg rfl _ _ w.heap.size 49 #[.int .i64 4,.string ⟨#[]⟩,.int .i64 n,.int .i64 0,.int .i64 0,.int .i64 0] (0,0) _ rfl (zhr i.o _ _ _ _ _ _) underlying49 rfl kae) rfl ?_;exact ⟨rfl,(((((((aj.o.setCell (qad _) _).setCell (qad _) _).setCell (qad _) _).setCell (qad _) _).setCell (qad _) _).setCell (qad _) _))⟩
def PrefixPost (w:World) (a b c:Int) (e:Ending) (w':World):Prop:=e = .returned (.tuple #[.agg #[.int .i64 5,.string ⟨#[]⟩,.int .i64 0,.int .i64 a,.int .i64 b,.int .i64 0],.bool (c==0)])/\Below w.heap.size w w'
theorem lex_numbered.pre (a0:ByteArray) (a b c:Int) (w:World) (n:Hand.Inv w) (p:strings_ContainsAny.f a0 ⟨#[46,47]⟩=some true) (hp:addr_ParsePrefix.f a0=some (a,b,c)) :
  Calls prog 64 #[.string a0] w (PrefixPost w a b c):=by
  have x:=zq hp;have u:=zq n;have q:=zq p;clear hp n p;go_enter func64,ntmps64;have l:=(qan w.heap.size w).alloc (qad _) (.cells #[.int .i64 0,.string ⟨#[]⟩,.int .i64 0,.int .i64 0,.int .i64 0,.int .i64 0] 49);have m:=ziw w (.cells #[.int .i64 0,.string ⟨#[]⟩,.int .i64 0,.int .i64 0,.int .i64 0,.int .i64 0] 49);have j:=zq l;have r:=zq m;clear l m;go_wp2_with (go_at_call 99;refine (strings_ContainsAny.calls _ _ true _ q.o).mono ?_;rintro e w1 ⟨rfl,d⟩;have s:=zq (zaq r.o d);have am:=zq (j.o.trans (d.mono j.o.size));clear d);go_wp2_with (go_at_call 100;refine (addr_ParsePrefix.calls a0 a b c _ (u.o.below am.o) x.o).mono ?_;rintro e y ⟨rfl,i⟩;have k:=zq (zaq s.o i);have aj:=zq (am.o.trans (i.mono am.o.size));obtain ⟨c0,c1,c2,c3,c4,c5,f0,f1,f2,f3,f4,f5⟩:=zjb (zaf k.o (.cells #[.int .i64 a,.int .i64 b] 47));clear i);refine qaf (zbg rfl _ _ w.heap.size 49 #[.int .i64 5,.string ⟨#[]⟩,.int .i64 0,.int .i64 a,.int .i64 b,.int .i64 0] (0,0) _ rfl (zhr (zaf k.o _) _ _ _ _ _ _) underlying49 rfl kae) rfl ?_;exact ⟨rfl,((((((((aj.o.alloc aj.o.size _).setCell (qad _) _).setCell (qad _) _).setCell (qad _) _).setCell (qad _) _).setCell (qad _) _).setCell (qad _) _))⟩
theorem lex_numbered.calls (a0:ByteArray) (r1:Int) (r2:ByteArray) (r3 r4 o q:Int) (r:Bool) (w:World) (i:Hand.Inv w) (h:lex_numbered.f a0=some (r1,r2,r3,r4,o,q,r)) :
  Calls prog 64 #[.string a0] w fun e w'=>e = .returned (.tuple #[.agg #[.int .i64 r1,.string r2,.int .i64 r3,.int .i64 r4,.int .i64 o,.int .i64 q],.bool r])/\Below w.heap.size w w':=by
 unfold lex_numbered.f at h;obtain ⟨c,j,h⟩:=qba.1 h;cases c with
 | true=>
  rw [if_pos rfl] at h;obtain ⟨⟨a,b,d⟩,hp,h⟩:=qba.1 h;simp only [qai,qap] at h;obtain ⟨rfl,rfl,rfl,rfl,rfl,rfl,rfl⟩:=h;exact lex_numbered.pre a0 a b d w i j hp
 | false=>
  rw [if_neg kad] at h;split at h
  ·rename_i h1;have h:=qaa h;split at h
   ·rename_i v n;simp only [qap] at h;obtain ⟨rfl,rfl,rfl,rfl,rfl,rfl,rfl⟩:=h;exact lex_numbered.ok a0 v w i j h1 n
   ·rename_i n;simp only [qap] at h;obtain ⟨rfl,rfl,rfl,rfl,rfl,rfl,rfl⟩:=h;refine lex_numbered.err a0 _ w (fun w k=>?_) i j;obtain ⟨tp,p,hp⟩:=k.errR;exact (Tryz.strconv_Atoi_range_var a0 h1 n tp p w hp).mono fun e w' ⟨N,m,_,_,l⟩=>⟨N,m,l⟩
   rename_i s u;simp only [qap] at h;obtain ⟨rfl,rfl,rfl,rfl,rfl,rfl,rfl⟩:=h;refine lex_numbered.err a0 0 w (fun w k=>?_) i j;obtain ⟨tp,p,hp⟩:=k.errS;exact (Tryz.strconv_Atoi_syntax_var a0 h1 s u tp p w hp).mono fun e w' ⟨N,m,_,_,l⟩=>⟨N,m,l⟩
  cases h
end
section
attribute [local go_sem] zdv zdt zel zek zcz zcy zdu zds
def lex_token.f (k:Nat) (a0:ByteArray):Option (Int×ByteArray×Int×Int×Int×Int×Int×Int):=if 0<(a0.size:Int) then ((lex_begins.f (wrap32 (bt a0 0))).bind fun t140=>(if t140=6 then ((lex_quoted.f k a0).bind fun c=>(if c.2.2=true then (some (6,c.1,0,0,0,0,c.2.1,0)) else (some (0,(⟨#[]⟩:ByteArray),0,0,0,0,0,83)))) else ((lex_run.f t140 a0).bind fun t144=>(if 0<=t144 then (if t144<=(a0.size:Int) then (if t140=3 then ((lex_IsWord.f k (a0.extract 0 (t144:Int).toNat)).bind fun t146=>(if t146=true then (some (1,a0.extract 0 (t144:Int).toNat,0,0,0,0,t144,0)) else (if t144>32 then (some (2,a0.extract 0 (t144:Int).toNat,0,0,0,0,0,82)) else (some (2,a0.extract 0 (t144:Int).toNat,0,0,0,0,t144,0))))) else (if t140=4 then (if t144>16 then (some (3,a0.extract 0 (t144:Int).toNat,0,0,0,0,0,82)) else (some (3,a0.extract 0 (t144:Int).toNat,0,0,0,0,t144,0))) else (if t140=5 then ((lex_numbered.f (a0.extract 0 (t144:Int).toNat)).bind fun b=>(if b.2.2.2.2.2.2=true then (some (b.1,b.2.1,b.2.2.1,b.2.2.2.1,b.2.2.2.2.1,b.2.2.2.2.2.1,t144,0)) else (some (0,a0.extract 0 (t144:Int).toNat,0,0,0,0,0,81)))) else (if t140=7 then (some (7,a0.extract 0 (t144:Int).toNat,0,0,0,0,t144,0)) else (if t140=0 then (some (0,a0.extract 0 (t144:Int).toNat,0,0,0,0,0,80)) else (some (0,a0.extract 0 (t144:Int).toNat,0,0,0,0,t144,0))))))) else (none)) else (none))))) else (none)
theorem lex_token.mono:∀ a0 k,LeO (lex_token.f k a0) (lex_token.f (k+1) a0):=by
 intro a0 k;unfold lex_token.f
 repeat' first
   | (with_reducible exact lex_IsWord.mono _ _)
   | (with_reducible exact lex_quoted.mono _ _)
   | (with_reducible exact LeO.refl _)
   | (with_reducible exact LeO.none _)
   | (with_reducible refine LeO.ite ?_ ?_)
   | (with_reducible refine LeO.bind ?_ (fun _=>?_))
   | exact lex_IsWord.mono _ _
   | exact lex_quoted.mono _ _
   | exact LeO.none _
   | refine LeO.ite ?_ ?_
   | refine LeO.bind ?_ (fun _=>?_)
theorem lex_token.calls (k:Nat) (a0:ByteArray) (r1:Int) (r2:ByteArray) (r3:Int) (r4:Int) (r5:Int) (r6:Int) (r7:Int) (r8:Int) (w:World) (a8:Inv w) (h:lex_token.f k a0=some (r1,r2,r3,r4,r5,r6,r7,r8)) :
  Calls prog 39 #[.string a0] w fun e w'=>e = .returned (.tuple #[.agg #[.int .i64 r1,.string r2,.int .i64 r3,.int .i64 r4,.int .i64 r5,.int .i64 r6],.int .i64 r7,.int .i64 r8])/\Below w.heap.size w w':=by
 have X:=zq a8;have HB:=zq (qan w.heap.size w);unfold lex_token.f at h;obtain ⟨h0,h⟩:=hif h;have c0:=qac h0;obtain ⟨c,A1,h⟩:=hbd h;have hz:0<a0.size:=kab;have aG:bt a0 0=((a0[0]'hz).toNat:Int):=dif_pos hz;rw [aG] at A1;have U:=zq (fun w=>lex_begins.calls _ c w A1.o);clear A1 a8;by_cases h6:c=6
 ·rw [if_pos h6] at h;have c6:(c==6)=true:=qar.2 h6;obtain ⟨⟨t1,t2,t3⟩,A2,h⟩:=hbd h;dsimp only at h;have af:=zq (fun w=>lex_quoted.calls k a0 t1 t2 t3 w A2.o);clear A2 HB X h6;cases t3
  ·rw [if_neg kad] at h;simp only [qai,qap] at h;obtain ⟨rfl,rfl,rfl,rfl,rfl,rfl,rfl,rfl⟩:=h;go_enter func39,ntmps39;go_wp2_with (first
    | (go_at_call 60;refine (U.o _).mono ?_;rintro e1 w1 ⟨rfl,d⟩;have ab:=zq ((d.block _ (by simp)).trans (qab w _));have am:=zq (zbb (zad (qan _ w) _) (by simp) d);clear d U)
    | (go_at_call 61;refine (af.o _).mono ?_;rintro e2 D ⟨rfl,d⟩;have hR:=(d.block _ (zam ab.o)).trans ab.o;have aj:=zbb am.o am.o.size d;clear d;obtain ⟨u0,u1,u2,u3,u4,u5,g0,g1,g2,g3,g4,g5⟩:=zby hR))
   refine qaf (zbh rfl _ _ w.heap.size 49 _ (0,0) _ rfl (zcl hR _ _ _ _ _ _) underlying49 rfl kae) rfl ?_;exact ⟨rfl,zbw aj (qad _) _ _ _ _ _ _⟩
  rw [if_pos rfl] at h;simp only [qai,qap] at h;obtain ⟨rfl,rfl,rfl,rfl,rfl,rfl,rfl,rfl⟩:=h;go_enter func39,ntmps39;go_wp2_with (first
   | (go_at_call 60;refine (U.o _).mono ?_;rintro e1 w1 ⟨rfl,d⟩;have ab:=zq ((d.block _ (by simp)).trans (qab w _));have am:=zq (zbb (zad (qan _ w) _) (by simp) d);clear d U)
   | (go_at_call 61;refine (af.o _).mono ?_;rintro e2 D ⟨rfl,d⟩;have hR:=(d.block _ (zam ab.o)).trans ab.o;have aj:=zbb am.o am.o.size d;clear d;obtain ⟨u0,u1,u2,u3,u4,u5,g0,g1,g2,g3,g4,g5⟩:=zby hR))
  refine qaf (zbh rfl _ _ w.heap.size 49 _ (0,0) _ rfl (zcl hR _ _ _ _ _ _) underlying49 rfl kae) rfl ?_;exact ⟨rfl,zbw aj (qad _) _ _ _ _ _ _⟩
 rw [if_neg h6] at h;have c6:(c==6)=false:=qah.2 h6;obtain ⟨n,A2,h⟩:=hbd h;obtain ⟨h1,h⟩:=hif h;obtain ⟨h2,h⟩:=hif h;have c1:=qac h1;have c2:=qac h2;have af:=zq (fun w=>lex_run.calls c a0 n w A2.o);have HH:=zq h;clear h A2;go_enter func39,ntmps39;go_upto_region 9 with (first
  | (go_at_call 60;refine (U.o _).mono ?_;rintro e1 w1 ⟨rfl,d⟩;have ab:=zq ((d.block _ (by simp)).trans (qab w _));have am:=zq (zbb (zad (qan _ w) _) (by simp) d);clear d U)
  | (go_at_call 62;refine (af.o _).mono ?_;rintro e2 D ⟨rfl,d⟩;have Y:=zq ((d.block _ (zam ab.o)).trans ab.o);have aj:=zq (zbb am.o am.o.size d);clear d))
 have aB:=zq (Nat.ne_of_lt (zam Y.o));generalize aC:a0.extract 0 n.toNat=m at HH ⊢;have aE:=zq aC;clear aC;have H:=HH.o;clear HH;have n1:=aB.o;have n2:=aB.o.symm;by_cases h3:c=3
 ·rw [if_pos h3] at H;have c3:(c==3)=true:=qar.2 h3;obtain ⟨b,A3,H⟩:=hbd H;have l:=zq (qab D (.cells #[.int .i64 2,.string m,.int .i64 0,.int .i64 0,.int .i64 0,.int .i64 0] 49));have j:=zq (zaf Y.o (.cells #[.int .i64 2,.string m,.int .i64 0,.int .i64 0,.int .i64 0,.int .i64 0] 49));have i:=zq (zad aj.o (.cells #[.int .i64 2,.string m,.int .i64 0,.int .i64 0,.int .i64 0,.int .i64 0] 49));have q1:=zab l.o 1;have W:=zq (fun w hI=>lex_IsWord.calls k m b w hI A3.o);clear h3;cases b
  ·rw [if_neg kad] at H;by_cases a7:n>32
   ·rw [if_pos a7] at H;simp only [qai,qap] at H;obtain ⟨rfl,rfl,rfl,rfl,rfl,rfl,rfl,rfl⟩:=H;go_wp2_with (go_at_call 63;refine (W.o _ (X.o.below i.o)).mono ?_;rintro e3 w3 ⟨rfl,d⟩;have A:=(d.block _ (zam l.o)).trans l.o;have y:=(d.block _ (zam j.o)).trans j.o;have B:=zbb i.o i.o.size d;clear d W q1;obtain ⟨u0,u1,u2,u3,u4,u5,g0,g1,g2,g3,g4,g5⟩:=zby y;obtain ⟨v0,v1,v2,v3,v4,v5,G,I,J,L,M,O⟩:=zby A);refine qaf (zbh rfl _ _ w.heap.size 49 _ (0,0) _ rfl (zcl y _ _ _ _ _ _) underlying49 rfl kae) rfl ?_;exact ⟨rfl,zbw B (qad _) _ _ _ _ _ _⟩
   rw [if_neg a7] at H;simp only [qai,qap] at H;obtain ⟨rfl,rfl,rfl,rfl,rfl,rfl,rfl,rfl⟩:=H;go_wp2_with (go_at_call 63;refine (W.o _ (X.o.below i.o)).mono ?_;rintro e3 w3 ⟨rfl,d⟩;have A:=(d.block _ (zam l.o)).trans l.o;have y:=(d.block _ (zam j.o)).trans j.o;have B:=zbb i.o i.o.size d;clear d W q1;obtain ⟨u0,u1,u2,u3,u4,u5,g0,g1,g2,g3,g4,g5⟩:=zby y;obtain ⟨v0,v1,v2,v3,v4,v5,G,I,J,L,M,O⟩:=zby A);refine qaf (zbh rfl _ _ w.heap.size 49 _ (0,0) _ rfl (zcl y _ _ _ _ _ _) underlying49 rfl kae) rfl ?_;exact ⟨rfl,zbw B (qad _) _ _ _ _ _ _⟩
  rw [if_pos rfl] at H;simp only [qai,qap] at H;obtain ⟨rfl,rfl,rfl,rfl,rfl,rfl,rfl,rfl⟩:=H;go_wp2_with (go_at_call 63;refine (W.o _ (X.o.below i.o)).mono ?_;rintro e3 w3 ⟨rfl,d⟩;have A:=(d.block _ (zam l.o)).trans l.o;have y:=(d.block _ (zam j.o)).trans j.o;have B:=zbb i.o i.o.size d;clear d W q1;obtain ⟨u0,u1,u2,u3,u4,u5,g0,g1,g2,g3,g4,g5⟩:=zby y;obtain ⟨v0,v1,v2,v3,v4,v5,G,I,J,L,M,O⟩:=zby A;have Z:=zan A 0 (.int .i64 1) rfl;have E:=zav (p:=⟨D.heap.size,0,none⟩) y n1 (.int .i64 1);have ad:=B.setCell (p:=⟨D.heap.size,0,none⟩) aj.o.size (.int .i64 1);obtain ⟨x0,q,r,s,u,x,i0,i1,i2,i3,i4,i5⟩:=zby E;obtain ⟨y0,y1,y2,y3,y4,y5,j0,j1,j2,j3,j4,j5⟩:=zby Z);refine qaf (zbh rfl _ _ w.heap.size 49 _ (0,0) _ rfl (zcl E _ _ _ _ _ _) underlying49 rfl kae) rfl ?_;exact ⟨rfl,zbw ad (qad _) _ _ _ _ _ _⟩
 rw [if_neg h3] at H;have c3:(c==3)=false:=qah.2 h3;by_cases h4:c=4
 ·rw [if_pos h4] at H;have c4:(c==4)=true:=qar.2 h4;have l:=qab D (.cells #[.int .i64 3,.string m,.int .i64 0,.int .i64 0,.int .i64 0,.int .i64 0] 49);have j:=zaf Y.o (.cells #[.int .i64 3,.string m,.int .i64 0,.int .i64 0,.int .i64 0,.int .i64 0] 49);have i:=zad aj.o (.cells #[.int .i64 3,.string m,.int .i64 0,.int .i64 0,.int .i64 0,.int .i64 0] 49);obtain ⟨u0,u1,u2,u3,u4,u5,g0,g1,g2,g3,g4,g5⟩:=zby j;obtain ⟨v0,v1,v2,v3,v4,v5,G,I,J,L,M,O⟩:=zby l;by_cases a6:n>16
  ·rw [if_pos a6] at H;simp only [qai,qap] at H;obtain ⟨rfl,rfl,rfl,rfl,rfl,rfl,rfl,rfl⟩:=H;go_wp2;refine qaf (zbh rfl _ _ w.heap.size 49 _ (0,0) _ rfl (zcl j _ _ _ _ _ _) underlying49 rfl kae) rfl ?_;exact ⟨rfl,zbw i (qad _) _ _ _ _ _ _⟩
  rw [if_neg a6] at H;simp only [qai,qap] at H;obtain ⟨rfl,rfl,rfl,rfl,rfl,rfl,rfl,rfl⟩:=H;go_wp2;refine qaf (zbh rfl _ _ w.heap.size 49 _ (0,0) _ rfl (zcl j _ _ _ _ _ _) underlying49 rfl kae) rfl ?_;exact ⟨rfl,zbw i (qad _) _ _ _ _ _ _⟩
 rw [if_neg h4] at H;have c4:(c==4)=false:=qah.2 h4;by_cases h5:c=5
 ·rw [if_pos h5] at H;have c5:(c==5)=true:=qar.2 h5;obtain ⟨⟨q,r,s,u,x,z,ok⟩,A5,H⟩:=hbd H;dsimp only at H;have l:=zq (qab D (.cells #[.int .i64 0,.string m,.int .i64 0,.int .i64 0,.int .i64 0,.int .i64 0] 49));have j:=zq (zaf Y.o (.cells #[.int .i64 0,.string m,.int .i64 0,.int .i64 0,.int .i64 0,.int .i64 0] 49));have i:=zq (zad aj.o (.cells #[.int .i64 0,.string m,.int .i64 0,.int .i64 0,.int .i64 0,.int .i64 0] 49));rw [<-aE.o] at A5;have a1:=zq (fun w hI=>lex_numbered.calls (a0.extract 0 n.toNat) q r s u x z ok w hI A5.o);clear A5 h5;cases ok
  ·rw [if_neg kad] at H;simp only [qai,qap] at H;obtain ⟨rfl,rfl,rfl,rfl,rfl,rfl,rfl,rfl⟩:=H;go_wp2_with (go_at_call 64;refine (a1.o _ (X.o.below i.o)).mono ?_;rintro e3 w3 ⟨rfl,d⟩;have A:=(d.block _ (zam l.o)).trans l.o;have y:=(d.block _ (zam j.o)).trans j.o;have B:=zbb i.o i.o.size d;have hX:=qab w3 (.cells #[.int .i64 q,.string r,.int .i64 s,.int .i64 u,.int .i64 x,.int .i64 z] 49);have Z:=zaf A (.cells #[.int .i64 q,.string r,.int .i64 s,.int .i64 u,.int .i64 x,.int .i64 z] 49);have E:=zaf y (.cells #[.int .i64 q,.string r,.int .i64 s,.int .i64 u,.int .i64 x,.int .i64 z] 49);have ad:=zad B (.cells #[.int .i64 q,.string r,.int .i64 s,.int .i64 u,.int .i64 x,.int .i64 z] 49);clear d a1;obtain ⟨u0,u1,u2,u3,u4,u5,g0,g1,g2,g3,g4,g5⟩:=zby E;obtain ⟨v0,v1,v2,v3,v4,v5,G,I,J,L,M,O⟩:=zby Z);refine qaf (zbh rfl _ _ w.heap.size 49 _ (0,0) _ rfl (zcl E _ _ _ _ _ _) underlying49 rfl kae) rfl ?_;exact ⟨rfl,zbw ad (qad _) _ _ _ _ _ _⟩
  rw [if_pos rfl] at H;simp only [qai,qap] at H;obtain ⟨rfl,rfl,rfl,rfl,rfl,rfl,rfl,rfl⟩:=H;go_wp2_with (go_at_call 64;refine (a1.o _ (X.o.below i.o)).mono ?_;rintro e3 w3 ⟨rfl,d⟩;have A:=(d.block _ (zam l.o)).trans l.o;have y:=(d.block _ (zam j.o)).trans j.o;have B:=zbb i.o i.o.size d;have hX:=qab w3 (.cells #[.int .i64 q,.string r,.int .i64 s,.int .i64 u,.int .i64 x,.int .i64 z] 49);have Z:=zaf A (.cells #[.int .i64 q,.string r,.int .i64 s,.int .i64 u,.int .i64 x,.int .i64 z] 49);have E:=zaf y (.cells #[.int .i64 q,.string r,.int .i64 s,.int .i64 u,.int .i64 x,.int .i64 z] 49);have ad:=zad B (.cells #[.int .i64 q,.string r,.int .i64 s,.int .i64 u,.int .i64 x,.int .i64 z] 49);clear d a1;obtain ⟨u0,u1,u2,u3,u4,u5,g0,g1,g2,g3,g4,g5⟩:=zby E;obtain ⟨v0,v1,v2,v3,v4,v5,G,I,J,L,M,O⟩:=zby Z;have aF:=zcl Z (.int .i64 q) (.string r) (.int .i64 s) (.int .i64 u) (.int .i64 x) (.int .i64 z);have aA:=six_far E n1 (.int .i64 q) (.string r) (.int .i64 s) (.int .i64 u) (.int .i64 x) (.int .i64 z);have aD:=zbw ad aj.o.size (.int .i64 q) (.string r) (.int .i64 s) (.int .i64 u) (.int .i64 x) (.int .i64 z);obtain ⟨x0,q,r,s,u,x,i0,i1,i2,i3,i4,i5⟩:=zby aA;obtain ⟨y0,y1,y2,y3,y4,y5,j0,j1,j2,j3,j4,j5⟩:=zby aF);refine qaf (zbh rfl _ _ w.heap.size 49 _ (0,0) _ rfl (zcl aA _ _ _ _ _ _) underlying49 rfl kae) rfl ?_;exact ⟨rfl,zbw aD (qad _) _ _ _ _ _ _⟩
 rw [if_neg h5] at H;have c5:(c==5)=false:=qah.2 h5;by_cases h7:c=7
 ·rw [if_pos h7] at H;have c7:(c==7)=true:=qar.2 h7;have l:=qab D (.cells #[.int .i64 7,.string m,.int .i64 0,.int .i64 0,.int .i64 0,.int .i64 0] 49);have j:=zaf Y.o (.cells #[.int .i64 7,.string m,.int .i64 0,.int .i64 0,.int .i64 0,.int .i64 0] 49);have i:=zad aj.o (.cells #[.int .i64 7,.string m,.int .i64 0,.int .i64 0,.int .i64 0,.int .i64 0] 49);obtain ⟨u0,u1,u2,u3,u4,u5,g0,g1,g2,g3,g4,g5⟩:=zby j;obtain ⟨v0,v1,v2,v3,v4,v5,G,I,J,L,M,O⟩:=zby l;simp only [qai,qap] at H;obtain ⟨rfl,rfl,rfl,rfl,rfl,rfl,rfl,rfl⟩:=H;go_wp2;refine qaf (zbh rfl _ _ w.heap.size 49 _ (0,0) _ rfl (zcl j _ _ _ _ _ _) underlying49 rfl kae) rfl ?_;exact ⟨rfl,zbw i (qad _) _ _ _ _ _ _⟩
 rw [if_neg h7] at H;have c7:(c==7)=false:=qah.2 h7;have l:=qab D (.cells #[.int .i64 0,.string m,.int .i64 0,.int .i64 0,.int .i64 0,.int .i64 0] 49);have j:=zaf Y.o (.cells #[.int .i64 0,.string m,.int .i64 0,.int .i64 0,.int .i64 0,.int .i64 0] 49);have i:=zad aj.o (.cells #[.int .i64 0,.string m,.int .i64 0,.int .i64 0,.int .i64 0,.int .i64 0] 49);obtain ⟨u0,u1,u2,u3,u4,u5,g0,g1,g2,g3,g4,g5⟩:=zby j;obtain ⟨v0,v1,v2,v3,v4,v5,G,I,J,L,M,O⟩:=zby l;by_cases hc:c=0
 ·rw [if_pos hc] at H;have cc:(c==0)=true:=qar.2 hc;simp only [qai,qap] at H;obtain ⟨rfl,rfl,rfl,rfl,rfl,rfl,rfl,rfl⟩:=H;go_wp2;refine qaf (zbh rfl _ _ w.heap.size 49 _ (0,0) _ rfl (zcl j _ _ _ _ _ _) underlying49 rfl kae) rfl ?_;exact ⟨rfl,zbw i (qad _) _ _ _ _ _ _⟩
 rw [if_neg hc] at H;have cc:(c==0)=false:=qah.2 hc;simp only [qai,qap] at H;obtain ⟨rfl,rfl,rfl,rfl,rfl,rfl,rfl,rfl⟩:=H;go_wp2;refine qaf (zbh rfl _ _ w.heap.size 49 _ (0,0) _ rfl (zcl j _ _ _ _ _ _) underlying49 rfl kae) rfl ?_;exact ⟨rfl,zbw i (qad _) _ _ _ _ _ _⟩
def lex_Scan.l0:Nat->ByteArray->List (S49)->Int->Option ((List (S49))×Int×Int)
 | 0,_,_,_=>none
 | k+1,d,e,c=>if c<(d.size:Int) then (if 0<=c then (if c<=(d.size:Int) then ((lex_token.f k (d.extract (c:Int).toNat d.size)).bind fun b=>(if b.2.2.2.2.2.2.2=0 then (if b.1=0 then (lex_Scan.l0 k d e (wrap64 (c+b.2.2.2.2.2.2.1))) else (if e.length<2513169434916 then (lex_Scan.l0 k d (e++[(⟨b.1,b.2.1,b.2.2.1,(⟨b.2.2.2.1,b.2.2.2.2.1⟩:S47),c⟩:S49)]) (wrap64 (c+b.2.2.2.2.2.2.1))) else (none))) else (some (([]:List (S49)),b.2.2.2.2.2.2.2,c)))) else (none)) else (none)) else (if e.length<2513169434916 then (some ((e++[(⟨8,(⟨#[]⟩:ByteArray),0,(⟨0,0⟩:S47),(d.size:Int)⟩:S49)]),0,0)) else (none))
def lex_Scan.f (k:Nat) (a0:ByteArray):Option ((List (S49))×Int×Int):=if (a0.size:Int)>8000 then (some (([]:List (S49)),84,8000)) else (lex_Scan.l0 k a0 ([]:List (S49)) 0)
theorem lex_Scan.mono_l:∀ k,(∀ b c d,LeO (lex_Scan.l0 k b c d) (lex_Scan.l0 (k+1) b c d))
 | 0=>fun _ _ _ r h=>by simp [lex_Scan.l0] at h
 | k+1=>by
  have e:=lex_Scan.mono_l k;intro b c d;unfold lex_Scan.l0
  repeat' first
  | (with_reducible exact e _ _ _)
  | (with_reducible exact lex_token.mono _ _)
  | (with_reducible exact LeO.refl _)
  | (with_reducible exact LeO.none _)
  | (with_reducible refine LeO.ite ?_ ?_)
  | (with_reducible refine LeO.bind ?_ (fun _=>?_))
  | exact e _ _ _
  | exact lex_token.mono _ _
  | exact LeO.none _
  | refine LeO.ite ?_ ?_
  | refine LeO.bind ?_ (fun _=>?_)
theorem lex_Scan.calls (k:Nat) (a0:ByteArray) (r1:List (S49)) (r2:Int) (r3:Int) (w:World) (W:Inv w) (h:lex_Scan.f k a0=some (r1,r2,r3)) :
  Calls prog 16 #[.string a0] w fun e w'=>∃ Z:Value,e = .returned (.tuple #[Z,.int .i64 r2,.int .i64 r3])/\Kd.R k49 49 w' w.heap.size (fun _=>True) Z r1/\Below w.heap.size w w':=by
 have bN:=underlying49;have HB:=zq (qan w.heap.size w);have I:=zq W;clear W;have H:(if (a0.size:Int)>8000 then (some (([]:List (S49)),84,8000)) else (lex_Scan.l0 k a0 ([]:List (S49)) 0))=some (r1,r2,r3):=h;clear h;by_cases c2:(a0.size:Int)>8000
 ·rw [if_pos c2] at H;have O:decide (8000<(a0.size:Int))=true:=qac c2;have U:decide (8000<a0.size)=true:=qac kab;clear c2;simp only [qai,qap] at H;obtain ⟨rfl,rfl,rfl⟩:=H;go_enter func16,ntmps16;go_wp2
  go_ret3
  exact ⟨_,by first|rfl|(simp [zap,zao]<;>rfl)|(simp [*,zap,zao]<;>rfl),by first|exact Kd.R_nil _ _ _ _ _|exact Kd.N_nil _ _ _ _ _|exact Kd.V_nil _ _ _ _ _|exact Kd.Q_nil _ _ _ _ _|exact Kd.S_nil _ _ _ _ _,kaa⟩
 rw [if_neg c2] at H;have O:decide (8000<(a0.size:Int))=false:=qak c2;have U:decide (8000<a0.size)=false:=qak kab;clear c2;have x:=zq H;clear H;go_enter func16,ntmps16;go_wp2;go_loopg [5,6] k (fun Y v5 v6 w'=>∃ (m:List (S49)) (d:Int),v6 = .int .i64 d/\Zq (lex_Scan.l0 Y a0 m d=some (r1,r2,r3))/\Zq (Y<=k)/\Zq (Kd.R k49 49 w' w.heap.size (fun _=>True) v5 m)/\Zq (Below w.heap.size w w'));case atStart=>exact ⟨(([]:List (S49))),(0),kaf,x,⟨qad _⟩,⟨by first|exact Kd.R_nil _ _ _ _ _|exact Kd.N_nil _ _ _ _ _|exact Kd.V_nil _ _ _ _ _|exact Kd.Q_nil _ _ _ _ _|exact Kd.S_nil _ _ _ _ _⟩,⟨kaa⟩⟩
 case round=>
  clear x;try clear c1
  try clear c2
  try clear O
  try clear U
  try clear p2
  obtain ⟨m,d,rfl,G,D,aq,HB⟩:=hrel;cases gk with
  | zero=>exact absurd G.o (by simp [lex_Scan.l0])
  | succ y=>
   have H:=G.o;clear G;simp only [lex_Scan.l0] at H;by_cases c3:d<(a0.size:Int)
   ·rw [if_pos c3] at H;have aE:decide (d<(a0.size:Int))=true:=qac c3;clear c3;by_cases c4:0<=d
    ·rw [if_pos c4] at H;have aU:=eq_true c4;have aV:decide (0<=d)=true:=qac c4;clear c4;by_cases c5:d<=(a0.size:Int)
     ·rw [if_pos c5] at H;have aX:=eq_true c5;have aY:decide (d<=(a0.size:Int))=true:=qac c5;clear c5;obtain ⟨⟨t158,t159,t160,t161,t162,t163,t164,t165⟩,A6,H⟩:=kbd H;(try dsimp only at H);by_cases c7:t165=0
      ·rw [if_pos c7] at H;have aG:(t165==0)=true:=qar.mpr c7;have aH:(t165 !=0)=false:=qaq.mpr c7;clear c7;by_cases c8:t158=0
       ·rw [if_pos c8] at H;have aI:(t158==0)=true:=qar.mpr c8;have aJ:(t158 !=0)=false:=qaq.mpr c8;clear c8;have x:=zq H;clear H;go_wp2_with (first|((with_reducible refine zar (f:=39) rfl ?_);refine zbs (some 21) rfl rfl func39 kae rfl #[.string (a0.extract (d:Int).toNat a0.size)] rfl kac ?_;(with_reducible refine (lex_token.calls y (a0.extract (d:Int).toNat a0.size) t158 t159 t160 t161 t162 t163 t164 t165 _ ?side1 A6.o).mono ?_);(case side1=>exact Inv.below I.o kaa);rintro e w9 ⟨rfl,i⟩;refine ⟨_,rfl,?_⟩;replace aq:=zq (Kd.R_below kaj i);replace HB:=zq (zau kaa i);(try clear i);(try clear X);(try clear hk);(try clear hi))|((with_reducible refine zcf (N:=7) rfl ?_);refine zcb ?hg (N:=7) ?hd (cs:=#[.int .i64 0,.string (⟨#[]⟩:ByteArray),.int .i64 0,.int .i64 0,.int .i64 0,.int .i64 0]) (t:=49) ?hr ?_;(case hd=>rfl);(case hg=>rfl);(case hr=>first|(go_simp;done)|(go_simp;rfl));intro c hg bP n i;have q:=zq n;have j:=zq (kge hg (zat kaa):w.heap.size<=c);replace aq:=zq (Kd.R_below (Kd.R_elderB kaj c (Nat.le_of_eq hg.symm)) i);replace HB:=zq (zau kaa i);clear i n hg;obtain ⟨aZ,ba,bb,bc,bd,bk,b4,b5,b6,b7,b8,b9⟩:=zby q.o))
        go_roundg y
        case measure=>have:=D.o;omega
        case rel=>exact ⟨(m),(wrap64 (d+t164)),kaf,x,⟨by have:=D.o;omega⟩,⟨by (with_reducible repeat (first|apply Kd.R_alloc|apply Kd.R_drewN|apply Kd.R_drew));exact Kd.R_mono (Kd.R_far (p:=⟨c,5,none⟩) (Kd.R_far (p:=⟨c,5,none⟩) (Kd.R_far (p:=⟨c,4,none⟩) (Kd.R_far (p:=⟨c,3,none⟩) (Kd.R_far (p:=⟨c,2,none⟩) (Kd.R_far (p:=⟨c,1,none⟩) (Kd.R_far (p:=⟨c,0,none⟩) (Kd.R_mono aq.o (fun u hk=>(⟨hk,hk.2⟩:_/\u≠c))) (fun _ hk=>hk.2) (.int .i64 t158)) (fun _ hk=>hk.2) (.string t159)) (fun _ hk=>hk.2) (.int .i64 t160)) (fun _ hk=>hk.2) (.int .i64 t161)) (fun _ hk=>hk.2) (.int .i64 t162)) (fun _ hk=>hk.2) (.int .i64 t163)) (fun _ hk=>hk.2) (.int .i64 d)) (fun _ hk=>trivial)⟩,⟨by repeat (first|(with_reducible first|exact HB.o|apply zad|apply zaa|apply zae|refine zaj ?_ j.o)|exact HB.o)⟩⟩
       rw [if_neg c8] at H;have aI:(t158==0)=false:=qah.mpr c8;have aJ:(t158 !=0)=true:=qbc.mpr c8;by_cases c12:m.length<2513169434916
       ·rw [if_pos c12] at H;have a8:=zq c12;clear c12;obtain ⟨ad,B⟩:∃ M:List (S49),M=(m++[(⟨t158,t159,t160,(⟨t161,t162⟩:S47),d⟩:S49)]):=⟨_,rfl⟩;replace H:(lex_Scan.l0 y a0 ad (wrap64 (d+t164)))=some (r1,r2,r3):=(by first|(rw [B];with_reducible exact H)|(have r:=(qam _ _).symm.trans H;rw [B];with_reducible exact r)|(have r:=(qam _ _).symm.trans H;with_reducible exact r)|with_reducible exact H|(rw [B];exact H)|exact H);have aD:=zq B;clear B;have x:=zq H;clear H;go_upto_region 11 with (first|((with_reducible refine zar (f:=39) rfl ?_);refine zbs (some 21) rfl rfl func39 kae rfl #[.string (a0.extract (d:Int).toNat a0.size)] rfl kac ?_;(with_reducible refine (lex_token.calls y (a0.extract (d:Int).toNat a0.size) t158 t159 t160 t161 t162 t163 t164 t165 _ ?side1 A6.o).mono ?_);(case side1=>exact Inv.below I.o kaa);rintro e bQ ⟨rfl,i⟩;refine ⟨_,rfl,?_⟩;replace aq:=zq (Kd.R_below kaj i);replace HB:=zq (zau kaa i);(try clear i);(try clear X);(try clear hk);(try clear hi))|((with_reducible refine zcf (N:=7) rfl ?_);refine zcb ?hg (N:=7) ?hd (cs:=#[.int .i64 0,.string (⟨#[]⟩:ByteArray),.int .i64 0,.int .i64 0,.int .i64 0,.int .i64 0]) (t:=49) ?hr ?_;(case hd=>rfl);(case hg=>rfl);(case hr=>first|(go_simp;done)|(go_simp;rfl));intro c hg E n i;have q:=zq n;have j:=zq (kge hg (zat kaa):w.heap.size<=c);replace aq:=zq (Kd.R_below (Kd.R_elderB kaj c (Nat.le_of_eq hg.symm)) i);replace HB:=zq (zau kaa i);clear i n hg;obtain ⟨bp,bq,br,bu,bv,bw,bA,bB,bD,bE,bF,bG⟩:=zby q.o));have l:(((((((E.setCell ⟨c,0,none⟩ (.int .i64 t158)).setCell ⟨c,1,none⟩ (.string t159)).setCell ⟨c,2,none⟩ (.int .i64 t160)).setCell ⟨c,3,none⟩ (.int .i64 t161)).setCell ⟨c,4,none⟩ (.int .i64 t162)).setCell ⟨c,5,none⟩ (.int .i64 t163)).setCell ⟨c,5,none⟩ (.int .i64 d)).heap[c]?=some (.cells #[.int .i64 t158,.string t159,.int .i64 t160,.int .i64 t161,.int .i64 t162,.int .i64 d] 49 (0,0)):=zan (zan (zan (zan (zan (zan (zan (q.o) 0 _ rfl) 1 _ rfl) 2 _ rfl) 3 _ rfl) 4 _ rfl) 5 _ rfl) 5 _ rfl;have z:Kd.R k49 49 (((((((E.setCell ⟨c,0,none⟩ (.int .i64 t158)).setCell ⟨c,1,none⟩ (.string t159)).setCell ⟨c,2,none⟩ (.int .i64 t160)).setCell ⟨c,3,none⟩ (.int .i64 t161)).setCell ⟨c,4,none⟩ (.int .i64 t162)).setCell ⟨c,5,none⟩ (.int .i64 t163)).setCell ⟨c,5,none⟩ (.int .i64 d)) w.heap.size (fun u=>True/\u≠c) u5 m:=Kd.R_far (p:=⟨c,5,none⟩) (Kd.R_far (p:=⟨c,5,none⟩) (Kd.R_far (p:=⟨c,4,none⟩) (Kd.R_far (p:=⟨c,3,none⟩) (Kd.R_far (p:=⟨c,2,none⟩) (Kd.R_far (p:=⟨c,1,none⟩) (Kd.R_far (p:=⟨c,0,none⟩) (aq.o) (fun _ hk=>hk.2) _) (fun _ hk=>hk.2) _) (fun _ hk=>hk.2) _) (fun _ hk=>hk.2) _) (fun _ hk=>hk.2) _) (fun _ hk=>hk.2) _) (fun _ hk=>hk.2) _;have L:Below w.heap.size w (((((((E.setCell ⟨c,0,none⟩ (.int .i64 t158)).setCell ⟨c,1,none⟩ (.string t159)).setCell ⟨c,2,none⟩ (.int .i64 t160)).setCell ⟨c,3,none⟩ (.int .i64 t161)).setCell ⟨c,4,none⟩ (.int .i64 t162)).setCell ⟨c,5,none⟩ (.int .i64 t163)).setCell ⟨c,5,none⟩ (.int .i64 d)):=zaj (zaj (zaj (zaj (zaj (zaj (zaj (HB.o) j.o) j.o) j.o) j.o) j.o) j.o) j.o;generalize ((((((E.setCell ⟨c,0,none⟩ (.int .i64 t158)).setCell ⟨c,1,none⟩ (.string t159)).setCell ⟨c,2,none⟩ (.int .i64 t160)).setCell ⟨c,3,none⟩ (.int .i64 t161)).setCell ⟨c,4,none⟩ (.int .i64 t162)).setCell ⟨c,5,none⟩ (.int .i64 t163)).setCell ⟨c,5,none⟩ (.int .i64 d)=W2 at l z L ⊢;have af:=zq l;have a7:=zq z;have aj:=zq L;have aM:W2.cell? ⟨c,0,none⟩=some (.int .i64 t158):=zab l 0;have aN:W2.cell? ⟨c,1,none⟩=some (.string t159):=zab l 1;have aQ:W2.cell? ⟨c,2,none⟩=some (.int .i64 t160):=zab l 2;have aR:W2.cell? ⟨c,3,none⟩=some (.int .i64 t161):=zab l 3;have aT:W2.cell? ⟨c,4,none⟩=some (.int .i64 t162):=zab l 4;have aW:W2.cell? ⟨c,5,none⟩=some (.int .i64 d):=zab l 5;clear l z L HB q aq;go_wp2_with (((with_reducible refine zas (b := .append) (xs:=#[.tmp 34,.tmp 36]) rfl ?_);at_builtin;refine Kd.R_append k49 (w0:=w) w.heap.size rfl (.tmp 34) (.tmp 36) 43 49 (.agg #[(.int .i64 0),(.string ⟨#[]⟩),(.int .i64 0),(.int .i64 0),(.int .i64 0),(.int .i64 0)]) 56 rfl underlying43 zrx rfl kad kab u5 m (⟨t158,t159,t160,(⟨t161,t162⟩:S47),d⟩:S49) [.int .i64 t158,.string t159,.int .i64 t160,.int .i64 t161,.int .i64 t162,.int .i64 d] (fun u=>u≠c) (fun _=>False) rfl (by first|(go_simp;done)|(go_simp;rfl)) ?aP (fun _ hk=>hk.elim) ?aF ?aO ?aB ?aS ?aL ?_;(case aP=>exact zok _ _ _ (⟨t158,t159,t160,(⟨t161,t162⟩:S47),d⟩:S49));(case aB=>exact (by repeat (first|(with_reducible first|exact aj.o|apply zad|apply zaa|apply zae|refine zaj ?_ j.o)|exact aj.o)));(case aF=>exact (fun u hk=>Kd.freshB (g:=c) (o := .cells #[.int .i64 t158,.string t159,.int .i64 t160,.int .i64 t161,.int .i64 t162,.int .i64 d] 49 (0,0)) (by (with_reducible repeat (first|refine zah ?_ _|refine zak ?_|refine zaf ?_ _));exact af.o) u hk));(case aO=>exact (by (with_reducible repeat (first|apply Kd.R_alloc|apply Kd.R_drewN|apply Kd.R_drew));exact Kd.R_mono a7.o (fun _ hk=>hk.2)));(case aS=>exact (zat (by repeat (first|(with_reducible first|exact aj.o|apply zad|apply zaa|apply zae|refine zaj ?_ j.o)|exact aj.o))));(case aL=>have:=a8.o;omega);intro v168 bR s i hg J;rw [<-aD.o] at s;have HB:=zq i;have a6:=zq s;clear s i hg J))
        go_roundg y
        case measure=>have:=D.o;omega
        case rel=>exact ⟨(ad),(wrap64 (d+t164)),kaf,x,⟨by have:=D.o;omega⟩,⟨by (with_reducible repeat (first|apply Kd.R_alloc|apply Kd.R_drewN|apply Kd.R_drew));exact Kd.R_mono a6.o (fun _ hk=>trivial)⟩,⟨by repeat (first|(with_reducible first|exact HB.o|apply zad|apply zaa|apply zae|refine zaj ?_ j.o)|exact HB.o)⟩⟩
       rw [if_neg c12] at H;exact absurd H (by simp)
      rw [if_neg c7] at H;have aG:(t165==0)=false:=qah.mpr c7;have aH:(t165 !=0)=true:=qbc.mpr c7;simp only [qai,qap] at H;obtain ⟨rfl,rfl,rfl⟩:=H;go_wp2_with (first|((with_reducible refine zar (f:=39) rfl ?_);refine zbs (some 21) rfl rfl func39 kae rfl #[.string (a0.extract (d:Int).toNat a0.size)] rfl kac ?_;(with_reducible refine (lex_token.calls y (a0.extract (d:Int).toNat a0.size) t158 t159 t160 t161 t162 t163 t164 t165 _ ?side1 A6.o).mono ?_);(case side1=>exact Inv.below I.o kaa);rintro e bS ⟨rfl,i⟩;refine ⟨_,rfl,?_⟩;replace aq:=zq (Kd.R_below kaj i);replace HB:=zq (zau kaa i);(try clear i);(try clear X);(try clear hk);(try clear hi))|((with_reducible refine zcf (N:=7) rfl ?_);refine zcb ?hg (N:=7) ?hd (cs:=#[.int .i64 0,.string (⟨#[]⟩:ByteArray),.int .i64 0,.int .i64 0,.int .i64 0,.int .i64 0]) (t:=49) ?hr ?_;(case hd=>rfl);(case hg=>rfl);(case hr=>first|(go_simp;done)|(go_simp;rfl));intro c hg bT n i;have q:=zq n;have j:=zq (kge hg (zat kaa):w.heap.size<=c);replace aq:=zq (Kd.R_below (Kd.R_elderB kaj c (Nat.le_of_eq hg.symm)) i);replace HB:=zq (zau kaa i);clear i n hg;obtain ⟨bx,bz,b0,b1,b2,b3,bH,bI,bJ,bK,bL,bM⟩:=zby q.o))
      go_ret3
      exact ⟨_,by first|rfl|(simp [zap,zao]<;>rfl)|(simp [*,zap,zao]<;>rfl),by first|exact Kd.R_nil _ _ _ _ _|exact Kd.N_nil _ _ _ _ _|exact Kd.V_nil _ _ _ _ _|exact Kd.Q_nil _ _ _ _ _|exact Kd.S_nil _ _ _ _ _,by repeat (first|(with_reducible first|exact HB.o|apply zad|apply zaa|apply zae|refine zaj ?_ j.o)|exact HB.o)⟩
     rw [if_neg c5] at H;exact absurd H (by simp)
    rw [if_neg c4] at H;exact absurd H (by simp)
   rw [if_neg c3] at H;have aE:decide (d<(a0.size:Int))=false:=qak c3;clear c3;by_cases c20:m.length<2513169434916
   ·rw [if_pos c20] at H;have aA:=zq c20;clear c20;obtain ⟨aK,A⟩:∃ M:List (S49),M=(m++[(⟨8,(⟨#[]⟩:ByteArray),0,(⟨0,0⟩:S47),(a0.size:Int)⟩:S49)]):=⟨_,rfl⟩;replace H:(some (aK,0,0))=some (r1,r2,r3):=(by first|(rw [A];with_reducible exact H)|(have r:=(qam _ _).symm.trans H;rw [A];with_reducible exact r)|(have r:=(qam _ _).symm.trans H;with_reducible exact r)|with_reducible exact H|(rw [A];exact H)|exact H);have aC:=zq A;clear A;simp only [qai,qap] at H;obtain ⟨rfl,rfl,rfl⟩:=H;go_wp2_with (first|((with_reducible refine zas (b := .append) (xs:=#[.tmp 41,.tmp 45]) rfl ?_);at_builtin;refine Kd.R_append k49 (w0:=w) w.heap.size rfl (.tmp 41) (.tmp 45) 43 49 (.agg #[(.int .i64 0),(.string ⟨#[]⟩),(.int .i64 0),(.int .i64 0),(.int .i64 0),(.int .i64 0)]) 56 rfl underlying43 zrx rfl kad kab u5 m (⟨8,(⟨#[]⟩:ByteArray),0,(⟨0,0⟩:S47),(a0.size:Int)⟩:S49) [.int .i64 8,.string (⟨#[]⟩:ByteArray),.int .i64 0,.int .i64 0,.int .i64 0,.int .i64 (a0.size:Int)] (fun _=>True) (fun _=>False) rfl rfl ?aP (fun _ hk=>hk.elim) ?aF ?aO ?aB ?aS ?aL ?_;(case aP=>exact zok _ _ _ (⟨8,(⟨#[]⟩:ByteArray),0,(⟨0,0⟩:S47),(a0.size:Int)⟩:S49));(case aB=>exact kaa);(case aF=>exact (fun _ _=>trivial));(case aO=>exact kaj);(case aS=>exact (zat kaa));(case aL=>have:=aA.o;omega);intro bO bU s i hg J;rw [<-aC.o] at s;have l:=zq i;have z:=zq s;clear HB;clear aq;have HB:=l;have a1:=z;clear l z;clear s i hg J))
    go_ret3
    exact ⟨_,by first|rfl|(simp [zap,zao]<;>rfl)|(simp [*,zap,zao]<;>rfl),by (with_reducible repeat (first|apply Kd.R_alloc|apply Kd.R_drewN|apply Kd.R_drew));exact a1.o,kaa⟩
   rw [if_neg c20] at H;exact absurd H (by simp)
mutual
def syntax_depth.l0:Nat->Int->List (S60)->Int->Int->Option (Int)
 | 0,_,_,_,_=>none
 | k+1,x3,x7,x8,x9=>if x9<x8 then (if 0<=x9 then (if x9<(x7.length:Int) then ((syntax_depth.f k ((zbf x7 x9).f0) ((zbf x7 x9).f1) ((zbf x7 x9).f2) ((zbf x7 x9).f3) ((zbf x7 x9).f4) ((zbf x7 x9).f5) ((zbf x7 x9).f6) ((zbf x7 x9).f7)).bind fun t176=>(syntax_depth.l0 k (mx x3 t176) x7 x8 (wrap64 (x9+1)))) else (none)) else (none)) else (some (wrap64 (x3+1)))
def syntax_depth.f:Nat->Int->ByteArray->ByteArray->List (S47)->List (S68)->List ByteArray->List (S60)->Int->Option (Int)
 | 0,_,_,_,_,_,_,_,_=>none
 | k+1,a0_0,a0_1,a0_2,l0_3,l0_4,l0_5,l0_6,a0_7=>syntax_depth.l0 k 0 l0_6 (l0_6.length:Int) 0
end
theorem syntax_depth.mono_l:∀ k,(∀ b c d y3 y4 j y6 l,LeO (syntax_depth.f k b c d y3 y4 j y6 l) (syntax_depth.f (k+1) b c d y3 y4 j y6 l))/\(∀ b c d y3,LeO (syntax_depth.l0 k b c d y3) (syntax_depth.l0 (k+1) b c d y3))
 | 0=>⟨fun _ _ _ _ _ _ _ _ r h=>by simp [syntax_depth.f] at h,fun _ _ _ _ r h=>by simp [syntax_depth.l0] at h⟩
 | k+1=>by
  obtain ⟨e,i⟩:=syntax_depth.mono_l k;refine ⟨?_,?_⟩
  ·intro b c d y3 y4 j y6 l;unfold syntax_depth.f
   repeat' first
   | (with_reducible exact e _ _ _ _ _ _ _ _)
   | (with_reducible exact i _ _ _ _)
   | (with_reducible exact LeO.refl _)
   | (with_reducible exact LeO.none _)
   | (with_reducible refine LeO.ite ?_ ?_)
   | (with_reducible refine LeO.bind ?_ (fun _=>?_))
   | exact e _ _ _ _ _ _ _ _
   | exact i _ _ _ _
   | exact LeO.none _
   | refine LeO.ite ?_ ?_
   | refine LeO.bind ?_ (fun _=>?_)
  intro b c d y3;unfold syntax_depth.l0
  repeat' first
  | (with_reducible exact e _ _ _ _ _ _ _ _)
  | (with_reducible exact i _ _ _ _)
  | (with_reducible exact LeO.refl _)
  | (with_reducible exact LeO.none _)
  | (with_reducible refine LeO.ite ?_ ?_)
  | (with_reducible refine LeO.bind ?_ (fun _=>?_))
  | exact e _ _ _ _ _ _ _ _
  | exact i _ _ _ _
  | exact LeO.none _
  | refine LeO.ite ?_ ?_
  | refine LeO.bind ?_ (fun _=>?_)
theorem syntax_depth.mono:∀ a0 a1 a2 a3 a4 a5 b c k,LeO (syntax_depth.f k a0 a1 a2 a3 a4 a5 b c) (syntax_depth.f (k+1) a0 a1 a2 a3 a4 a5 b c):=by
 intro a0 a1 a2 a3 a4 a5 b c k;obtain ⟨d,e⟩:=syntax_depth.mono_l k;exact d a0 a1 a2 a3 a4 a5 b c
theorem syntax_depth.calls (k:Nat):∀ (x:Int) (y:ByteArray) (z:ByteArray) (q:Option Addr) (B:Nat) (j:List (S47)) (s:Option Addr) (D:Nat) (l:List (S68)) (u:Option Addr) (E:Nat) (m:List ByteArray) (O:Option Addr) (G:Nat) (b:List (S60)) (A:Int) (r:Int) (w:World) (aF:Kd.C k47 w q j.length j) (aB:j.length<=B) (aG:Kd.C k68 w s l.length l) (aC:l.length<=D) (aH:Kd.C Kd.string w u m.length m) (aD:m.length<=E) (aI:Kd.C k60 w O b.length b) (aE:b.length<=G) (h:syntax_depth.f k x y z j l m b A=some r),
  Calls prog 143 #[.agg #[.int .i64 x,.string y,.string z,.slice q j.length B,.slice s l.length D,.slice u m.length E,.slice O b.length G,.int .i64 A]] w fun e w'=>e = .returned (.int .i64 r)/\Below w.heap.size w w':=by
 induction k using Nat.strongRecOn with
 | _ k ih=>
 intro x y z q B j s D l u E m O G b A r w aF aB aG aC aH aD aI aE h;cases k with
 | zero=>exact absurd h (by simp [syntax_depth.f])
 | succ k=>
 simp only [syntax_depth.f] at h;have cm:=underlying60;have bN:=zq aF;have bJ:=zq aB;clear aF aB;have bO:=zq aG;have bK:=zq aC;clear aG aC;have bP:=zq aH;have bL:=zq aD;clear aH aD;have br:=zq aI;have bM:=zq aE;clear aI aE;have HB:=zq (qan w.heap.size w);have H:(syntax_depth.l0 k 0 b (b.length:Int) 0)=some r:=h;clear h;have H':=zq H;clear H;go_enter func143,ntmps143;go_wp2_with (first|((with_reducible refine zcf (N:=1) rfl ?_);refine zcb ?hg (N:=1) ?hd (cs:=#[.int .i64 x,.string y,.string z,.slice q j.length B,.slice s l.length D,.slice u m.length E,.slice O b.length G,.int .i64 A]) (t:=60) ?hr ?_;(case hd=>rfl);(case hg=>rfl);(case hr=>first|(go_simp;done)|(go_simp;rfl));intro i hg J Z p;have ap:=zq Z;have bi:=zq (kge hg (zat kaa):w.heap.size<=i);replace HB:=zq (zau kaa p);clear p Z hg;have b2:J.cell? ⟨i,0,none⟩=some (.int .i64 x):=(zab ap.o 0).trans rfl;have b3:J.cell? ⟨i,1,none⟩=some (.string y):=(zab ap.o 1).trans rfl;have b4:J.cell? ⟨i,2,none⟩=some (.string z):=(zab ap.o 2).trans rfl;have b5:J.cell? ⟨i,3,none⟩=some (.slice q j.length B):=(zab ap.o 3).trans rfl;have b6:J.cell? ⟨i,4,none⟩=some (.slice s l.length D):=(zab ap.o 4).trans rfl;have b7:J.cell? ⟨i,5,none⟩=some (.slice u m.length E):=(zab ap.o 5).trans rfl;have b8:J.cell? ⟨i,6,none⟩=some (.slice O b.length G):=(zab ap.o 6).trans rfl;have b9:J.cell? ⟨i,7,none⟩=some (.int .i64 A):=(zab ap.o 7).trans rfl;have bA:=zac ap.o 0;have bB:=zac ap.o 1;have bD:=zac ap.o 2;have bE:=zac ap.o 3;have bF:=zac ap.o 4;have bG:=zac ap.o 5;have bH:=zac ap.o 6;have bI:=zac ap.o 7));go_loopg [3,9] k (fun kq v3 v9 w'=>∃ (M:Int) (c:Int),v3 = .int .i64 M/\v9 = .int .i64 c/\Zq (syntax_depth.l0 kq M b (b.length:Int) c=some r)/\Zq (kq<=k)/\Zq (w'.heap[i]?=some (.cells #[.int .i64 x,.string y,.string z,(.slice q j.length B),(.slice s l.length D),(.slice u m.length E),(.slice O b.length G),.int .i64 A] 60 (0,0)))/\Zq (Below w.heap.size w w'));case atStart=>exact ⟨(0),(0),kaf,kaf,H',⟨qad _⟩,⟨kbz⟩,⟨kbp⟩⟩
 case round=>
  clear H';try clear c1
  try clear p2
  try clear b2
  try clear b3
  try clear b4
  try clear b5
  try clear b6
  try clear b7
  try clear b8
  try clear b9
  try clear bA
  try clear bB
  try clear bD
  try clear bE
  try clear bF
  try clear bG
  try clear bH
  try clear bI
  obtain ⟨M,c,rfl,rfl,HA,a8,ap,HB⟩:=hrel;cases gk with
  | zero=>exact absurd HA.o (by simp [syntax_depth.l0])
  | succ k1=>
   have H:=HA.o;clear HA;simp only [syntax_depth.l0] at H;by_cases c4:c<(b.length:Int)
   ·rw [if_pos c4] at H;have b0:decide (c<(b.length:Int))=true:=qac c4;clear c4;by_cases c5:0<=c
    ·rw [if_pos c5] at H;have bQ:decide (0<=c)=true:=qac c5;clear c5;by_cases c6:c<(b.length:Int)
     ·rw [if_pos c6] at H;have bR:decide (c<(b.length:Int))=true:=qac c6;clear c6;replace H:=qba.mp H;obtain ⟨t176,aU,H⟩:=H;replace H:(syntax_depth.l0 k1 (mx M t176) b (b.length:Int) (wrap64 (c+1)))=some r:=H;have A7:=zq aU;clear aU;obtain ⟨aR,ad⟩:∃ j_:Int,(mx M t176)=j_:=⟨_,rfl⟩;replace H:(syntax_depth.l0 k1 aR b (b.length:Int) (wrap64 (c+1)))=some r:=(by first|(rw [ad] at H;exact H)|(simp only [ad] at H ⊢;exact H));(try rw [ad] at A7);have cj:(if M<t176 then t176 else M)=aR:=ad;have H':=zq H;clear H;have aS:0<=(c:Int):=kao;have aT:c<(b.length:Int):=kao;obtain ⟨a1,U,W,X,Y,af,a6,a7,aA,b1,aJ,aK,aL,aM,aN,aO,aP,aQ,aZ,aV,ba,aW,bb,aX,bc,aY⟩:=zkr br.o c aS aT;cases b1;replace aJ:=(HB.o.cell (qbs w _ aJ)).trans aJ;replace aK:=(HB.o.cell (qbs w _ aK)).trans aK;replace aL:=(HB.o.cell (qbs w _ aL)).trans aL;replace aM:=(HB.o.cell (qbs w _ aM)).trans aM;replace aN:=(HB.o.cell (qbs w _ aN)).trans aN;replace aO:=(HB.o.cell (qbs w _ aO)).trans aO;replace aP:=(HB.o.cell (qbs w _ aP)).trans aP;replace aQ:=(HB.o.cell (qbs w _ aQ)).trans aQ;have bu:=zq aV;have bd:=zq aZ;clear aV aZ;have bv:=zq aW;have bk:=zq ba;clear aW ba;have bw:=zq aX;have bp:=zq bb;clear aX bb;have bx:=zq aY;have bq:=zq bc;clear aY bc;replace aS:=eq_true aS;replace aT:=eq_true aT;go_wp2_with (first|((with_reducible refine zcf (N:=5) rfl ?_);refine zcb ?hg (N:=5) ?hd (cs:=#[.int .i64 0,.string (⟨#[]⟩:ByteArray),.string (⟨#[]⟩:ByteArray),.slice none 0 0,.slice none 0 0,.slice none 0 0,.slice none 0 0,.int .i64 0]) (t:=60) ?hr ?_;(case hd=>rfl);(case hg=>rfl);(case hr=>first|(go_simp;done)|(go_simp;rfl));intro n hg L Z p;have d:=zq Z;have bj:=zq (kge hg (zat kbp):w.heap.size<=n);have I:=zq ((by rw [hg];exact Nat.ne_of_lt (zam (g:=i) (o := .cells #[.int .i64 x,.string y,.string z,.slice q j.length B,.slice s l.length D,.slice u m.length E,.slice (some a1) b.length G,.int .i64 A] 60 (0,0)) kbz):i≠n));have bz:=zq ((by rw [hg];exact Nat.ne_of_gt (zam (g:=i) (o := .cells #[.int .i64 x,.string y,.string z,.slice q j.length B,.slice s l.length D,.slice u m.length E,.slice (some a1) b.length G,.int .i64 A] 60 (0,0)) kbz):n≠i));replace ap:=zq (zaq (g:=i) (o := .cells #[.int .i64 x,.string y,.string z,.slice q j.length B,.slice s l.length D,.slice u m.length E,.slice (some a1) b.length G,.int .i64 A] 60 (0,0)) kbz p);replace HB:=zq (zau kbp p);clear p Z hg;have ck:=bz.o;have cl:=I.o;have bT:L.cell? ⟨n,0,none⟩=some (.int .i64 0):=(zab d.o 0).trans rfl;have bU:L.cell? ⟨n,1,none⟩=some (.string (⟨#[]⟩:ByteArray)):=(zab d.o 1).trans rfl;have bV:L.cell? ⟨n,2,none⟩=some (.string (⟨#[]⟩:ByteArray)):=(zab d.o 2).trans rfl;have bW:L.cell? ⟨n,3,none⟩=some (.slice none 0 0):=(zab d.o 3).trans rfl;have bX:L.cell? ⟨n,4,none⟩=some (.slice none 0 0):=(zab d.o 4).trans rfl;have bY:L.cell? ⟨n,5,none⟩=some (.slice none 0 0):=(zab d.o 5).trans rfl;have bZ:L.cell? ⟨n,6,none⟩=some (.slice none 0 0):=(zab d.o 6).trans rfl;have ca:L.cell? ⟨n,7,none⟩=some (.int .i64 0):=(zab d.o 7).trans rfl;have cb:=zac d.o 0;have cc:=zac d.o 1;have cd:=zac d.o 2;have ce:=zac d.o 3;have cf:=zac d.o 4;have cg:=zac d.o 5;have ch:=zac d.o 6;have ci:=zac d.o 7)|((with_reducible refine zar (f:=143) rfl ?_);refine zbs (some 15) rfl rfl func143 kae rfl #[.agg #[.int .i64 ((zbf b c).f0),.string ((zbf b c).f1),.string ((zbf b c).f2),.slice U ((zbf b c).f3).length W,.slice X ((zbf b c).f4).length Y,.slice af ((zbf b c).f5).length a6,.slice a7 ((zbf b c).f6).length aA,.int .i64 ((zbf b c).f7)]] rfl kac ?_;(with_reducible refine (ih k1 (by have:=a8.o;omega) ((zbf b c).f0) ((zbf b c).f1) ((zbf b c).f2) _ _ ((zbf b c).f3) _ _ ((zbf b c).f4) _ _ ((zbf b c).f5) _ _ ((zbf b c).f6) ((zbf b c).f7) t176 _ ?side1 ?side2 ?side3 ?side4 ?side5 ?side6 ?side7 ?side8 A7.o).mono ?_);(case side1=>exact Kd.C_below bu.o kau);(case side2=>exact bd.o);(case side3=>exact Kd.C_below bv.o kau);(case side4=>exact bk.o);(case side5=>exact Kd.C_below bw.o kau);(case side6=>exact bp.o);(case side7=>exact Kd.C_below bx.o kau);(case side8=>exact bq.o);rintro e cn ⟨rfl,p⟩;refine ⟨_,rfl,?_⟩;replace ap:=zq (zaq (g:=i) (o := .cells #[.int .i64 x,.string y,.string z,.slice q j.length B,.slice s l.length D,.slice u m.length E,.slice (some a1) b.length G,.int .i64 A] 60 (0,0)) (by (with_reducible repeat (first|refine zah ?_ _|refine zak ?_|refine zaf ?_ _));refine zav ?_ I.o _;(with_reducible repeat (first|refine zah ?_ _|refine zak ?_|refine zaf ?_ _));refine zav ?_ I.o _;(with_reducible repeat (first|refine zah ?_ _|refine zak ?_|refine zaf ?_ _));refine zav ?_ I.o _;(with_reducible repeat (first|refine zah ?_ _|refine zak ?_|refine zaf ?_ _));refine zav ?_ I.o _;(with_reducible repeat (first|refine zah ?_ _|refine zak ?_|refine zaf ?_ _));refine zav ?_ I.o _;(with_reducible repeat (first|refine zah ?_ _|refine zak ?_|refine zaf ?_ _));refine zav ?_ I.o _;(with_reducible repeat (first|refine zah ?_ _|refine zak ?_|refine zaf ?_ _));refine zav ?_ I.o _;(with_reducible repeat (first|refine zah ?_ _|refine zak ?_|refine zaf ?_ _));refine zav ?_ I.o _;(with_reducible repeat (first|refine zah ?_ _|refine zak ?_|refine zaf ?_ _));exact ap.o) p);replace d:=zq (zaq (g:=n) (o := .cells #[.int .i64 ((zbf b c).f0),.string ((zbf b c).f1),.string ((zbf b c).f2),.slice U ((zbf b c).f3).length W,.slice X ((zbf b c).f4).length Y,.slice af ((zbf b c).f5).length a6,.slice a7 ((zbf b c).f6).length aA,.int .i64 ((zbf b c).f7)] 60 (0,0)) (by (with_reducible repeat (first|refine zah ?_ _|refine zak ?_|refine zaf ?_ _));refine zan (cs:=#[.int .i64 ((zbf b c).f0),.string ((zbf b c).f1),.string ((zbf b c).f2),.slice U ((zbf b c).f3).length W,.slice X ((zbf b c).f4).length Y,.slice af ((zbf b c).f5).length a6,.slice a7 ((zbf b c).f6).length aA,.int .i64 0]) ?_ 7 _ rfl;(with_reducible repeat (first|refine zah ?_ _|refine zak ?_|refine zaf ?_ _));refine zan (cs:=#[.int .i64 ((zbf b c).f0),.string ((zbf b c).f1),.string ((zbf b c).f2),.slice U ((zbf b c).f3).length W,.slice X ((zbf b c).f4).length Y,.slice af ((zbf b c).f5).length a6,.slice none 0 0,.int .i64 0]) ?_ 6 _ rfl;(with_reducible repeat (first|refine zah ?_ _|refine zak ?_|refine zaf ?_ _));refine zan (cs:=#[.int .i64 ((zbf b c).f0),.string ((zbf b c).f1),.string ((zbf b c).f2),.slice U ((zbf b c).f3).length W,.slice X ((zbf b c).f4).length Y,.slice none 0 0,.slice none 0 0,.int .i64 0]) ?_ 5 _ rfl;(with_reducible repeat (first|refine zah ?_ _|refine zak ?_|refine zaf ?_ _));refine zan (cs:=#[.int .i64 ((zbf b c).f0),.string ((zbf b c).f1),.string ((zbf b c).f2),.slice U ((zbf b c).f3).length W,.slice none 0 0,.slice none 0 0,.slice none 0 0,.int .i64 0]) ?_ 4 _ rfl;(with_reducible repeat (first|refine zah ?_ _|refine zak ?_|refine zaf ?_ _));refine zan (cs:=#[.int .i64 ((zbf b c).f0),.string ((zbf b c).f1),.string ((zbf b c).f2),.slice none 0 0,.slice none 0 0,.slice none 0 0,.slice none 0 0,.int .i64 0]) ?_ 3 _ rfl;(with_reducible repeat (first|refine zah ?_ _|refine zak ?_|refine zaf ?_ _));refine zan (cs:=#[.int .i64 ((zbf b c).f0),.string ((zbf b c).f1),.string (⟨#[]⟩:ByteArray),.slice none 0 0,.slice none 0 0,.slice none 0 0,.slice none 0 0,.int .i64 0]) ?_ 2 _ rfl;(with_reducible repeat (first|refine zah ?_ _|refine zak ?_|refine zaf ?_ _));refine zan (cs:=#[.int .i64 ((zbf b c).f0),.string (⟨#[]⟩:ByteArray),.string (⟨#[]⟩:ByteArray),.slice none 0 0,.slice none 0 0,.slice none 0 0,.slice none 0 0,.int .i64 0]) ?_ 1 _ rfl;(with_reducible repeat (first|refine zah ?_ _|refine zak ?_|refine zaf ?_ _));refine zan (cs:=#[.int .i64 0,.string (⟨#[]⟩:ByteArray),.string (⟨#[]⟩:ByteArray),.slice none 0 0,.slice none 0 0,.slice none 0 0,.slice none 0 0,.int .i64 0]) ?_ 0 _ rfl;(with_reducible repeat (first|refine zah ?_ _|refine zak ?_|refine zaf ?_ _));exact d.o) p);replace HB:=zq (zau kau p);(try clear p);(try clear bS);(try clear hk);(try clear hi)))
      go_roundg k1
      case measure=>have:=a8.o;omega
      case rel=>exact ⟨(aR),(wrap64 (c+1)),(by first|rfl|(simp;done)|(simp only [<-ad]<;>(first|rfl|simp))|(simp [*];done)),kaf,H',⟨by have:=a8.o;omega⟩,⟨kbz⟩,⟨kau⟩⟩
     rw [if_neg c6] at H;exact absurd H (by simp)
    rw [if_neg c5] at H;exact absurd H (by simp)
   rw [if_neg c4] at H;have b0:decide (c<(b.length:Int))=false:=qak c4;clear c4;obtain rfl:=qaa H;go_wp2;go_ret;exact ⟨by first|rfl|(simp [zap,zao]<;>rfl)|(simp [*,zap,zao]<;>rfl),kbp⟩
def zii (w0 W:World) (g:Nat) (f0:List Int) (f1:Bool) (f2:Bool):Prop:=∃ b c0,W.heap[g]?=some (.cells #[.slice b f0.length c0,.bool f1,.bool f2] 116 (0,0))/\w0.heap.size<=g/\Kd.C (Kd.int .u8) w0 b f0.length f0
theorem zii.grown {w0 W:World} {g:Nat} {f0:List Int} {f1:Bool} {f2:Bool} {W1:World} {row:Option Nat} (h:zii w0 W g f0 f1 f2) (i:W.grownBy W1 row) (d:some g≠row):zii w0 W1 g f0 f1 f2:=by
 obtain ⟨b,c0,c,hg,e⟩:=h;exact ⟨b,c0,blk_grown c i d,hg,e⟩
theorem zii.below {w0 W:World} {g:Nat} {f0:List Int} {f1:Bool} {f2:Bool} {W1:World} (h:zii w0 W g f0 f1 f2) (b:Below W.heap.size W W1):zii w0 W1 g f0 f1 f2:=h.grown (grown_of_below b none) (by simp)
theorem zii.alloc {w0 W:World} {g:Nat} {f0:List Int} {f1:Bool} {f2:Bool} (h:zii w0 W g f0 f1 f2) (o:Obj):zii w0 (W.alloc o) g f0 f1 f2:=h.below (zad (qan _ _) o)
theorem zii.drewN {w0 W:World} {g:Nat} {f0:List Int} {f1:Bool} {f2:Bool} (h:zii w0 W g f0 f1 f2) (m:Nat):zii w0 (W.drewN m) g f0 f1 f2:=h
theorem zii.at_ {w0 W:World} {g:Nat} {f0:List Int} {f1:Bool} {f2:Bool} {w':World} {m:Nat} (b:W.drewN m=w') (h:zii w0 W g f0 f1 f2):zii w0 w' g f0 f1 f2:=by subst b;exact zii.drewN h m
def syntax_printer_must.f (d:List Int) (b:Bool) (c:Bool) (a1:Bool):Option (Bool×Bool):=if c=true then (some (b,true)) else (some (b,!a1))
def syntax_printer_long.f (b:List Int) (c:Bool) (d:Bool):Option (Bool×Bool×Bool):=some (decide ((b.length:Int)>8000),c,d)
def lex_IsName.f (k:Nat) (a0:ByteArray):Option (Bool):=if a0.toList=([]:List UInt8) then (some false) else (if 0<(a0.size:Int) then ((lex_begins.f (wrap32 (bt a0 0))).bind fun t187=>(if t187=3 then ((lex_run.f 3 a0).bind fun t188=>(if t188=(a0.size:Int) then (if (a0.size:Int)<=32 then ((lex_IsWord.f k a0).bind fun t189=>(some (!t189))) else (some false)) else (some false))) else (some false))) else (none))
theorem lex_IsName.calls (k:Nat) (a0:ByteArray) (r:Bool) (w:World) (l:Inv w) (h:lex_IsName.f k a0=some r) :
  Calls prog 103 #[.string a0] w fun e w'=>e = .returned (.bool r)/\Below w.heap.size w w':=by
 have HB:=zq (qan w.heap.size w);have p:=zq l;clear l;have H:(if a0.toList=([]:List UInt8) then (some false) else (if 0<(a0.size:Int) then ((lex_begins.f (wrap32 (bt a0 0))).bind fun t187=>(if t187=3 then ((lex_run.f 3 a0).bind fun t188=>(if t188=(a0.size:Int) then (if (a0.size:Int)<=32 then ((lex_IsWord.f k a0).bind fun t189=>(some (!t189))) else (some false)) else (some false))) else (some false))) else (none)))=some r:=h;clear h;by_cases c2:a0.toList=([]:List UInt8)
 focus
  rw [if_pos c2] at H;have q:(a0.toList==([]:List UInt8))=true:=qar.mpr c2;have s:(a0.toList !=([]:List UInt8))=false:=qaq.mpr c2;clear c2;obtain rfl:=qaa H;have L:=trivial
 rotate_right
 focus
  rw [if_neg c2] at H;have q:(a0.toList==([]:List UInt8))=false:=qah.mpr c2;have s:(a0.toList !=([]:List UInt8))=true:=qbc.mpr c2;by_cases c3:0<(a0.size:Int)
  focus
   rw [if_pos c3] at H;have D:decide (0<(a0.size:Int))=true:=qac c3;have E:decide (0<a0.size)=true:=qac kab;clear c3;obtain ⟨t187,A5,H⟩:=kbd H;(try dsimp only at H);by_cases c6:t187=3
   focus
    rw [if_pos c6] at H;have u:(t187==3)=true:=qar.mpr c6;have x:(t187 !=3)=false:=qaq.mpr c6;clear c6;obtain ⟨t188,A7,H⟩:=kbd H;(try dsimp only at H);by_cases c8:t188=(a0.size:Int)
    focus
     rw [if_pos c8] at H;have y:(t188==(a0.size:Int))=true:=qar.mpr c8;have z:(t188 !=(a0.size:Int))=false:=qaq.mpr c8;clear c8;by_cases c9:(a0.size:Int)<=32
     focus
      rw [if_pos c9] at H;have A:decide ((a0.size:Int)<=32)=true:=qac c9;have B:decide (a0.size<=32)=true:=qac kab;clear c9;replace H:=qba.mp H;obtain ⟨t189,j,H⟩:=H;replace H:(some (!t189))=some r:=H;have n:=zq j;clear j;obtain rfl:=qaa H;have p4:0<=(0:Int):=kab;have b:0<a0.size:=kat;have d:∀ h:0<a0.size,((a0[0]'h).toNat:Int)=bt a0 0:=zcs a0 0;clear p4;have i:(0<(a0.size:Int))=True:=eq_true (kao);replace b:=eq_true b;have M:=trivial
     rotate_right
     focus
      rw [if_neg c9] at H;have A:decide ((a0.size:Int)<=32)=false:=qak c9;have B:decide (a0.size<=32)=false:=qak kab;clear c9;obtain rfl:=qaa H;have p4:0<=(0:Int):=kab;have b:0<a0.size:=kat;have d:∀ h:0<a0.size,((a0[0]'h).toNat:Int)=bt a0 0:=zcs a0 0;clear p4;have i:(0<(a0.size:Int))=True:=eq_true (kao);replace b:=eq_true b;have O:=trivial
    rotate_right
    focus
     rw [if_neg c8] at H;have y:(t188==(a0.size:Int))=false:=qah.mpr c8;have z:(t188 !=(a0.size:Int))=true:=qbc.mpr c8;obtain rfl:=qaa H;have p4:0<=(0:Int):=kab;have b:0<a0.size:=kat;have d:∀ h:0<a0.size,((a0[0]'h).toNat:Int)=bt a0 0:=zcs a0 0;clear p4;have i:(0<(a0.size:Int))=True:=eq_true (kao);replace b:=eq_true b;have U:=trivial
   rotate_right
   focus
    rw [if_neg c6] at H;have u:(t187==3)=false:=qah.mpr c6;have x:(t187 !=3)=true:=qbc.mpr c6;obtain rfl:=qaa H;have p4:0<=(0:Int):=kab;have b:0<a0.size:=kat;have d:∀ h:0<a0.size,((a0[0]'h).toNat:Int)=bt a0 0:=zcs a0 0;clear p4;have i:(0<(a0.size:Int))=True:=eq_true (kao);replace b:=eq_true b;have W:=trivial
  rotate_right
  focus
   rw [if_neg c3] at H;exact absurd H (by simp)
 all_goals (go_enter func103,ntmps103;go_wp2_with (first|(go_at_call 60;(with_reducible refine (lex_begins.calls (wrap32 (bt a0 0)) t187 _ A5.o).mono ?_);rintro e G ⟨rfl,c⟩;replace HB:=zq (zau kaa c);(try clear c);(try clear m);(try clear hk);(try clear hi))|(go_at_call 62;(with_reducible refine (lex_run.calls 3 a0 t188 _ A7.o).mono ?_);rintro e I ⟨rfl,c⟩;replace HB:=zq (zau kaa c);(try clear c);(try clear m);(try clear hk);(try clear hi))|(go_at_call 63;(with_reducible refine (lex_IsWord.calls k a0 t189 _ ?side1 n.o).mono ?_);(case side1=>exact Inv.below p.o kaa);rintro e J ⟨rfl,c⟩;replace HB:=zq (zau kaa c);(try clear c);(try clear m);(try clear hk);(try clear hi)));((go_ret);(exact ⟨by first|rfl|(simp [zap,zao]<;>rfl)|(simp [*,zap,zao]<;>rfl),kaa⟩)))
end
section
abbrev depF (k:Nat) (x:S60):Option Int:=syntax_depth.f k x.f0 x.f1 x.f2 x.f3 x.f4 x.f5 x.f6 x.f7
def Dep (x:S60) (d:Nat):Prop:=∃ k,depF k x=some (d:Int)
theorem zsd {x:S60} {k:Nat} {r:Int} (h:depF k x=some r):∀ m,depF (k+m) x=some r
 | 0=>h
 | m+1=>syntax_depth.mono _ _ _ _ _ _ _ _ _ _ (zsd h m)
theorem zmg {a:Int} {xs:List S60} {n i:Int} {k:Nat} {r:Int} (h:syntax_depth.l0 k a xs n i=some r):∀ m,syntax_depth.l0 (k+m) a xs n i=some r
 | 0=>h
 | m+1=>(syntax_depth.mono_l _).2 _ _ _ _ _ (zmg h m)
inductive DepsFrom:Nat->List S60->Nat->Prop
 | nil (a:Nat):DepsFrom a [] a
 | cons {a d e:Nat} {c:S60} {r:List S60} (h:Dep c e) (hr:DepsFrom (max a e) r d):DepsFrom a (c::r) d
theorem DepsFrom.snoc {a d e:Nat} {l:List S60} {c:S60} (h:DepsFrom a l d) (b:Dep c e):DepsFrom a (l++[c]) (max d e):=by
 induction h with
 | nil a=>exact .cons b (.nil _)
 | cons h1 _ i=>exact .cons h1 i
theorem dep_rd (xs:List S60) (i:Nat) (h:i<xs.length):zbf xs (i:Int)=xs[i]:=by
 unfold zbf;rw [qax,qat,qao h];rfl
theorem mx_nat (a b:Nat):mx (a:Int) (b:Int)=((max a b:Nat):Int):=by unfold mx;split<;>omega
theorem deps_l0 (xs:List S60) (hn:xs.length<=100000) (d:Nat) (hd:d<=100000):∀ (m i a:Nat),i+m=xs.length->DepsFrom a (xs.drop i) d->∃ k,syntax_depth.l0 k a xs xs.length i=some ((d+1:Nat):Int):=by
 intro m;induction m with
 | zero=>
  intro i a hi h;rw [qaz kab] at h;cases h;refine ⟨1,?_⟩;simp only [syntax_depth.l0];rw [if_neg kab];congr 1;unfold wrap64;omega
 | succ m r=>
  intro i a hi h;have l:i<xs.length:=kab;rw [qbh l] at h;cases h with
  | @cons _ _ e _ _ q hr=>
   obtain ⟨b,h1⟩:=q;obtain ⟨c,p⟩:=r (i+1) _ kab hr;refine ⟨b+c+1,?_⟩;simp only [syntax_depth.l0];rw [if_pos kab,if_pos kab,if_pos kab,dep_rd xs i l];have j:=zsd h1 c;unfold depF at j;rw [j];simp only [qam];rw [mx_nat];have n:=zmg p b;have o:wrap64 ((i:Int)+1)=((i+1:Nat):Int):=(by unfold wrap64;omega);rw [o,Nat.add_comm b c];exact n
theorem zop {x:S60} {d:Nat} (hn:x.f6.length<=100000) (hd:d<=100000) (h:DepsFrom 0 x.f6 d):Dep x (d+1):=by
 obtain ⟨k,hk⟩:=deps_l0 x.f6 hn d hd x.f6.length 0 0 kab (by simpa using h);refine ⟨k+1,?_⟩;unfold depF;simp only [syntax_depth.f];exact hk
theorem zlb {x:S60} (h:x.f6=[]):Dep x 1:=zop (by rw [h];decide) kad (by rw [h];exact .nil 0)
theorem depth_tree {W:World} {b d:Nat} {x:S60} {cs:List Value} {L:List Nat} (h:Tree W b x cs L) (hd:Dep x d) :
  Calls prog 143 #[.agg cs.toArray] W fun e W'=>e = .returned (.int .i64 d)/\Below W.heap.size W W':=by
 obtain ⟨k,hk⟩:=hd;obtain ⟨j,c3,l,c4,A5,c5,A6,c6,rfl,l3,g3,l4,g4,c,g5,i,g6⟩:=zci h.K;exact syntax_depth.calls k _ _ _ _ _ _ _ _ _ _ _ _ _ _ _ _ _ W g3 l3 g4 l4 g5 c g6 i hk
theorem store8_below (W:World) {b m:Nat} (h:b<=m) (v0 v1 v2 v3 v4 v5 c d:Value):Below b W (zlj W m v0 v1 v2 v3 v4 v5 c d):=by
 have e:=(qan b W).setCell (p:=⟨m,0,none⟩) h v0;have i:=(e).setCell (p:=⟨m,1,none⟩) h v1;have j:=(i).setCell (p:=⟨m,2,none⟩) h v2;have k:=(j).setCell (p:=⟨m,3,none⟩) h v3;have l:=(k).setCell (p:=⟨m,4,none⟩) h v4;have n:=(l).setCell (p:=⟨m,5,none⟩) h v5;have o:=(n).setCell (p:=⟨m,6,none⟩) h c;exact o.setCell (p:=⟨m,7,none⟩) h d
theorem zhz (W:World) {b d:Nat} {x:S60} {cs:List Value} {L:List Nat} (h:Tree W b x cs L) (hd:Dep x d) :
  Calls prog 113 #[.agg cs.toArray] W fun e W'=>(if d>16 then e = .panicked [zho 91 x.f7] else e = .returned (.agg cs.toArray))/\Below W.heap.size W W':=by
 obtain ⟨k,c3,l,c4,A5,c5,A6,c6,w,-⟩:=zci h.K;have m:=zq (fun W' (i:Below W.heap.size W W')=>depth_tree (h.frame fun g hg=>i.block g (h.lt g hg).2) hd);have p:=((qan W.heap.size W).alloc (qad _) (.cells cs.toArray 60)).alloc (by simp) (.cells zbe 60);have r:=qab (W.alloc (.cells cs.toArray 60)) (.cells zbe 60);have q:=zaf (qab W (.cells cs.toArray 60)) (.cells zbe 60);subst w;have am:=zq p;have s:=zq r;have HX:=zq q;clear h p r q hd;by_cases hd:d>16
 ·simp only [if_pos hd];have y:(d:Int)>16:=kab;go_enter func113,ntmps113;go_wp2_with (go_at_call 143;refine (m.o _ am.o).mono ?_;rintro e' w' ⟨rfl,i⟩;have c:=zaq HX.o i;have c7:=zab c 7);exact ⟨rfl,rfl,am.o.trans (i.mono am.o.size)⟩
 simp only [if_neg hd];have y:¬(d:Int)>16:=kab;go_enter func113,ntmps113;go_wp2_with (go_at_call 143;refine (m.o _ am.o).mono ?_;rintro e' w' ⟨rfl,i⟩;have c:=zaq HX.o i;have z:=zab c 0;have A:=zab c 1;have B:=zab c 2;have D:=zab c 3;have E:=zab c 4;have G:=zab c 5;have I:=zab c 6;have J:=zab c 7;have j:=zaq s.o i;have u:=zq j;rw [qae] at j;obtain ⟨M,O,U,y3,y4,X,y6,Y,z0,z1,z2,z3,z4,z5,Z,z7⟩:=zaw j;clear j c);have n:=u.o;rw [qae] at n;refine qaf (qau rfl _ _ (W.heap.size+1) 60 #[.int .i64 x.f0,.string x.f1,.string x.f2,.slice k x.f3.length c3,.slice l x.f4.length c4,.slice A5 x.f5.length c5,.slice A6 x.f6.length c6,.int .i64 x.f7] (0,0) _ rfl (zft n (.int .i64 x.f0) (.string x.f1) (.string x.f2) (.slice k x.f3.length c3) (.slice l x.f4.length c4) (.slice A5 x.f5.length c5) (.slice A6 x.f6.length c6) (.int .i64 x.f7)) underlying60 rfl kae) rfl ?_;refine ⟨rfl,(am.o.trans (i.mono am.o.size)).trans ?_⟩;exact store8_below w' kab _ _ _ _ _ _ _ _
end
section
abbrev bl (s:ByteArray):List UInt8:=s.data.toList
theorem zbm (s:ByteArray):(bl s).length=s.size:=by simp [bl]
theorem zfm (s:ByteArray) (i:Nat) (h:i<(bl s).length):bt s (i:Int)=((bl s)[i].toNat:Int):=by
 have b:i<s.size:=by rw [<-zbm];exact h
 unfold bt;rw [dif_pos (by simpa using b)];rfl
theorem zem (l:List UInt8) (i:Nat) (h:i<l.length):l.drop i=l[i]::l.drop (i+1):=qbh h
theorem zct (n:Nat) (h:n<=140737488355328):wrap64 ((n:Int)+1)=((n+1:Nat):Int):=by unfold wrap64;omega
end
end Go.Proofs.YtjeekocidaogoaaGreatDoor.H
