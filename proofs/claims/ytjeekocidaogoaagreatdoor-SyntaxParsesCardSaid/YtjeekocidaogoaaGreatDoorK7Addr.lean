import Derived.Test.YtjeekocidaogoaaGreatDoorK7Shelf
import Derived.WideLaws
import Derived.WalkSpells
import Derived.Lib.AtoiErrMem
import Derived.Deep.RegionHeld3
import Derived.Laws.BitsLemmas
import Derived.Stop.BytesEq
import Derived.Maps.AppendAt
import Derived.WalkKit
import Derived.Test.YtjeekocidaogoaaGreatDoorProg
import Derived.KernelRfl
import Derived.Laws.Rows
import Derived.WalkLawsBesides
import Derived.Deep.LoopGhost
import Derived.Deep.QuietTactic
import Derived.Deep.RegionWith
import Derived.BigQuiet
import Derived.Lib.OthersKept
import Derived.Lib.Split
import Derived.Lib.SplitLaws
import Derived.Lib.CountLaws
import Derived.Laws.StructEq
import Derived.Below
import Derived.Deep.Draws
import Derived.Deep.AppendLies
import Derived.OwnWalk
import Derived.Laws.BytesArg
import Derived.Laws.MakeOwn
import Derived.Laws.OwnMore
import Derived.Deep.OwnRows
import Derived.Tactics
import Derived.Lib.ConvBytes
import Derived.Laws.Slices
import Derived.RowKit3
import Derived.Deep.DeepCutAuto
import Derived.Deep.CutBlock
import Derived.Lib.AppendStr
import Derived.ArgAppend
import Derived.Laws.IdiomCopy
import Derived.OrdersHeld
import Derived.RowKit
import Derived.Deep.Cut
set_option linter.unusedVariables false
set_option linter.unusedSimpArgs false
set_option maxRecDepth 100000
set_option maxHeartbeats 8000000
open Go.Proofs.Tryz
namespace Go.Proofs.YtjeekocidaogoaaGreatDoor.Hand
open Go.RowKit Go.Proofs.YtjeekocidaogoaaGreatDoorW.PrintWords Go.Proofs.YtjeekocidaogoaaGreatDoorW.PrintLast Go.Proofs.YtjeekocidaogoaaGreatDoorW.PrintMore
section
theorem zkd {B:Nat} {w w1:World} (h:Below B w w1) (l:B<=w1.heap.size) (k:Nat) (os:Array Obj):Below B w («Sort».grow (w1.drewN k) os):=
 h.trans ⟨rfl,rfl,rfl,by show _<=(w1.heap++os).size;rw [Array.size_append];omega,fun i hi=>by
  show (w1.heap++os)[i]?=_;rw [Array.getElem?_append_left kab]⟩
def addr_number.f (a0:ByteArray) (a1:Int):Option (Int×Bool):=
 if a0.size<=281474976710656/\a1<=4294967295 then
  some (match Lib.atoiAll a0.data.toList with
   | .ok v=>(v,decide (0<=v)&&(decide (v<=a1)&&(Lib.itoa v==a0.toList)))
   | .range=>(Lib.atoiSat a0.data.toList,false)
   | _=>(0,false))
 else none
theorem number_ok (a0:ByteArray) (a1 v:Int) (w:World) (p:Inv w) (h1:a0.size<=281474976710656) (y:a1<=4294967295) (u:Lib.atoiAll a0.data.toList = .ok v) :
  Calls prog 128 #[.string a0,.int .i64 a1] w fun e w'=>e = .returned (.tuple #[.int .i64 v,.bool (decide (0<=v)&&(decide (v<=a1)&&(Lib.itoa v==a0.toList)))])/\Below w.heap.size w w':=by
 have m:=zq (fun w=>Tryz.strconv_Atoi_ok a0 kab v u w);have x:=zq p;have z:v<=a1->v<=4294967295:=fun h=>by omega
 clear u p h1 y;by_cases c0:0<=v
 ·by_cases c1:v<=a1
  ·have l:Hid ((decide (0<=v)&&(decide (v<=a1)&&(Lib.itoa v==a0.toList)))=(Lib.itoa v==a0.toList)):=(by show _=_;simp [c0,c1]);rw [l.out];go_enter func128,ntmps128;go_wp2_with (go_at_call 101;refine (m.o _).mono ?_;rintro e w1 ⟨rfl,k⟩);have HB:Hid (Below w.heap.size w w1):=(by rcases k with rfl|⟨t,rfl⟩;exact qan _ _;exact Lib.bytesWorld_below _ _ _);clear k;go_wp2_with (go_at_call 102;refine (Tryz.strconv_Itoa v kab (by have:=z c1;omega) _ (x.o.below HB.out).pow10).mono ?_;rintro e D ⟨rfl,A,os,rfl⟩)
   go_ret2
   exact ⟨rfl,zkd HB.out HB.out.size _ _⟩
  have l:Hid ((decide (0<=v)&&(decide (v<=a1)&&(Lib.itoa v==a0.toList)))=false):=by show _=_;simp [c1]
  rw [l.out];go_enter func128,ntmps128;go_wp2_with (go_at_call 101;refine (m.o _).mono ?_;rintro e w1 ⟨rfl,k⟩);have HB:Hid (Below w.heap.size w w1):=by rcases k with rfl|⟨t,rfl⟩;exact qan _ _;exact Lib.bytesWorld_below _ _ _
  clear k;go_wp2
  go_ret2
  exact ⟨rfl,HB.out⟩
 have l:Hid ((decide (0<=v)&&(decide (v<=a1)&&(Lib.itoa v==a0.toList)))=false):=by show _=_;simp [c0]
 rw [l.out];go_enter func128,ntmps128;go_wp2_with (go_at_call 101;refine (m.o _).mono ?_;rintro e w1 ⟨rfl,k⟩);have HB:Hid (Below w.heap.size w w1):=by rcases k with rfl|⟨t,rfl⟩;exact qan _ _;exact Lib.bytesWorld_below _ _ _
 clear k;go_wp2
 go_ret2
 exact ⟨rfl,HB.out⟩
def AtoiErr (n:Int) (w:World) (e:Ending) (w':World):Prop:=∃ N,e = .returned (.tuple #[.int .i64 n,.iface 190 (.pointer (some ⟨N,0,none⟩))])/\Below w.heap.size w w'
theorem zni (a0:ByteArray) (a1 n:Int) (w:World) (l:∀ w,Inv w->Calls prog 101 #[.string a0] w (AtoiErr n w)) (k:Inv w) :
  Calls prog 128 #[.string a0,.int .i64 a1] w fun e w'=>e = .returned (.tuple #[.int .i64 n,.bool false])/\Below w.heap.size w w':=by
 have m:=zq (l w k);clear l k;go_enter func128,ntmps128;go_wp2_with (go_at_call 101;refine m.o.mono ?_;rintro e w1 ⟨N,rfl,p⟩)
 go_ret2
 exact ⟨rfl,p⟩
theorem addr_number.calls (a0:ByteArray) (a1:Int) (r1:Int) (r2:Bool) (w:World) (l:Inv w) (h:addr_number.f a0 a1=some (r1,r2)) :
  Calls prog 128 #[.string a0,.int .i64 a1] w fun e w'=>e = .returned (.tuple #[.int .i64 r1,.bool r2])/\Below w.heap.size w w':=by
 unfold addr_number.f at h;split at h
 ·rename_i z;obtain ⟨h1,y⟩:=z;have h:=qaa h;split at h
  ·rename_i v x;simp only [qap] at h;obtain ⟨rfl,rfl⟩:=h;exact number_ok a0 a1 v w l h1 y x
  ·rename_i x;simp only [qap] at h;obtain ⟨rfl,rfl⟩:=h;refine zni a0 a1 _ w (fun w k=>?_) l;obtain ⟨tp,p,hp⟩:=k.errR;exact (Tryz.strconv_Atoi_range_var a0 h1 x tp p w hp).mono fun e w' ⟨N,u,_,_,m⟩=>⟨N,u,m⟩
  rename_i A D;simp only [qap] at h;obtain ⟨rfl,rfl⟩:=h;refine zni a0 a1 0 w (fun w k=>?_) l;obtain ⟨tp,p,hp⟩:=k.errS;exact (Tryz.strconv_Atoi_syntax_var a0 h1 A D tp p w hp).mono fun e w' ⟨N,u,_,_,m⟩=>⟨N,u,m⟩
 cases h
theorem zsv {k:IntKind} {a b:Int} (h:a=b):Ending.returned (.int k a) = .returned (.int k b):=by rw [h]
def zku (n:Int):Value := .agg #[.int .u8 (n/16777216%256),.int .u8 (n/65536%256),.int .u8 (n/256%256),.int .u8 (n%256)]
theorem zuu (n:Int) (w:World) :
  Calls prog 161 #[.int .i64 n] w fun e w'=>e = .returned (zku n)/\Below w.heap.size w w':=by
 unfold zku;go_enter func161,ntmps161;go_wp2;exact qaf (v := .agg #[.int .u8 (n/16777216%256),.int .u8 (n/65536%256),.int .u8 (n/256%256),.int .u8 (n%256)]) (by simp [results,Tryz.results161,go_sem]) rfl ⟨rfl,(qan _ _).alloc (qad _) _⟩
theorem zjo {a:Int} (k:0<=a) (h1:a<256):wrap64 a=a:=by unfold wrap64;omega
theorem word_pure {a b c d:Int} (a0:0<=a) (a1:a<256) (k:0<=b) (b1:b<256) (c0:0<=c) (c1:c<256) (d0:0<=d) (d1:d<256) :
  bits BinOp.or IntKind.i64 (bits BinOp.or IntKind.i64 (bits BinOp.or IntKind.i64 (wrap64 (wrap64 a*16777216)) (wrap64 (wrap64 b*65536))) (wrap64 (wrap64 c*256))) (wrap64 d)=a*16777216+b*65536+c*256+d:=by
 have wr:∀ n:Int,0<=n->n<2 ^ 40->IntKind.i64.wrap n=n:=fun n u h1=>by rw [IntKind.wrap_i64];omega
 rw [zjo a0 a1,zjo k b1,zjo c0 c1,zjo d0 d1];have l:wrap64 (a*16777216)=a*16777216:=by unfold wrap64;omega
 have m:wrap64 (b*65536)=b*65536:=by unfold wrap64;omega
 have p:wrap64 (c*256)=c*256:=by unfold wrap64;omega
 rw [l,m,p];rw [bits_join .i64 40 kad wr 24 (a*16777216) (b*65536) kab kab kab kab kab kab];rw [bits_join .i64 40 kad wr 16 _ (c*256) kab kab kab kab kab kab];rw [bits_join .i64 40 kad wr 8 _ d kab kab kab kab kab kab]
theorem word_any (a b c d:Int) (w:World) (a0:0<=a) (a1:a<256) (k:0<=b) (b1:b<256) (c0:0<=c) (c1:c<256) (d0:0<=d) (d1:d<256) :
  Calls prog 160 #[.agg #[.int .u8 a,.int .u8 b,.int .u8 c,.int .u8 d]] w fun e w'=>e = .returned (.int .i64 (a*16777216+b*65536+c*256+d))/\Below w.heap.size w w':=by
 have l:=zq (word_pure a0 a1 k b1 c0 c1 d0 d1);clear a0 a1 k b1 c0 c1 d0 d1;go_enter func160,ntmps160;go_wp2;go_ret;exact ⟨zsv l.o,(qan _ _).alloc (qad _) _⟩
theorem zus (p:Int) (l:0<=p) (h1:p<=32):1<=(2:Int) ^ (32-p).toNat/\(2:Int) ^ (32-p).toNat<=4294967296:=by
 have h:(32-p).toNat<=32:=kab;generalize (32-p).toNat=k at h;constructor
 ·exact Int.pow_pos kad
 have:=Nat.pow_le_pow_right (n:=2) kad h;have e:((2:Int) ^ k)=((2 ^ k:Nat):Int):=by simp
 rw [e];omega
theorem size_any (p:Int) (w:World) (k:0<=p) (h1:p<=32) :
  Calls prog 162 #[.int .i64 p] w fun e w'=>e = .returned (.int .i64 (2 ^ (32-p).toNat))/\w'=w:=by
 go_enter func162,ntmps162;go_wp2;go_ret;exact ⟨zsv (by unfold wrap64;have:=zus p k h1;omega),rfl⟩
def ztj (n:Int):List UInt8:=[n/16777216%256,n/65536%256,n/256%256,n%256].map fun x=>UInt8.ofNat x.toNat
theorem cell_byte (n:Int):Value.int .u8 (n%256)=Go.Extern.Stop.cell (UInt8.ofNat (n%256).toNat):=by
 unfold Go.Extern.Stop.cell;have h:Int.ofNat ((UInt8.ofNat (n%256).toNat).toNat)=n%256:=by
  rw [UInt8.toNat_ofNat'];show (((n%256).toNat%2 ^ 8:Nat):Int)=_;omega
 rw [h]
theorem zmc (n:Int):zku n = .agg ((ztj n).map Go.Extern.Stop.cell).toArray:=by
 unfold zku ztj;simp only [qcf,List.map_nil,<-cell_byte]
theorem four_inj {a b:Int} (a0:0<=a) (a1:a<=4294967295) (l:0<=b) (b1:b<=4294967295):(ztj a==ztj b)=decide (a=b):=by
 have key:∀ x y:Int,UInt8.ofNat (x%256).toNat=UInt8.ofNat (y%256).toNat->x%256=y%256:=fun x y h=>by
  have k:=congrArg (fun u:UInt8=>(u.toNat:Int)) h;simp only [UInt8.toNat_ofNat'] at k;omega
 rw [Bool.eq_iff_iff,qar,qbw];constructor
 ·intro h;simp only [ztj,qcf,List.map_nil,List.cons.injEq,and_true] at h;have h1:=key _ _ h.1;have m:=key _ _ h.2.1;have p:=key _ _ h.2.2.1;have z:=key _ _ h.2.2.2;omega
 intro h;rw [h]
theorem run_eql_four (a b:Int) (a0:0<=a) (a1:a<=4294967295) (k:0<=b) (b1:b<=4294967295) (w:World) :
  (binOp .eql 184 (zku a) (zku b)).run prog w = .ok (.bool (decide (a=b))) w:=by
 rw [zmc,zmc,run_eql_bytes w 184 5 4 underlying184 underlying5 (fun w=>by kernel_rfl) _ _ rfl rfl,four_inj a0 a1 k b1]
theorem run_eqGuard_four (x y:Operand) (a b:Int) (w:World):(eqGuard .eql 184 x y (zku a) (zku b)).run prog w = .ok () w:=by
 unfold zku;exact run_eqGuard_agg w _ _ _ _ _ _ Tryz.eqGuardType184
theorem zta (n:Int) (w:World) (a p:Int) (W:World) (h:W.cell? ⟨w.heap.size,0,none⟩=some (.int .i64 a)/\W.cell? ⟨w.heap.size,1,none⟩=some (.int .i64 p)/\Below w.heap.size w W/\w.heap.size<W.heap.size) :
  Calls prog 161 #[.int .i64 n] W fun e w'=>e = .returned (zku n)/\w'.cell? ⟨w.heap.size,0,none⟩=some (.int .i64 a)/\w'.cell? ⟨w.heap.size,1,none⟩=some (.int .i64 p)/\Below w.heap.size w w'/\w.heap.size<w'.heap.size:=by
 obtain ⟨m,h1,u,l⟩:=h;exact (zuu n W).mono fun e w' ⟨x,k⟩=>⟨x,(k.cell (p:=⟨w.heap.size,0,none⟩) l).trans m,(k.cell (p:=⟨w.heap.size,1,none⟩) l).trans h1,u.trans (k.mono kab),by have:=k.size;omega⟩
theorem right_in (a p sz:Int) (w:World) (X:0<=p) (h1:p<=32) (k:0<=a) (L:a<=4294967295) (s1:1<=sz) (s2:sz<=4294967296)
  (z:∀ w,Calls prog 162 #[.int .i64 p] w fun e w'=>e = .returned (.int .i64 sz)/\w'=w) :
  Calls prog 129 #[.agg #[.int .i64 a,.int .i64 p]] w fun e w'=>e = .returned (.bool (decide (a=a/sz*sz)))/\Below w.heap.size w w':=by
 have O:0<=a/sz:=Int.ediv_nonneg k kab;have q2:a/sz<=a:=Int.ediv_le_self _ k;have q3:a/sz*sz<=a:=Int.ediv_mul_le _ kab;have U:0<=a/sz*sz:=Int.mul_nonneg O kab;have HE:=zq (run_eql_four a (a/sz*sz) k L U kab);have G:=zq z;clear z;have ad:¬sz=0:=kab;have HD:=zq (Int.tdiv_eq_ediv_of_nonneg (b:=sz) k);have J:=zq (show IntKind.i64.wrap (a/sz)=a/sz by rw [IntKind.wrap_i64];omega);have D:=zq (fun (x y:Operand) (w:World)=>run_eqGuard_four x y a (a/sz*sz) w);have A:IntKind.i64.wrap (a/sz*sz)=a/sz*sz:=by rw [IntKind.wrap_i64];omega
 have E:=zq A;clear A;go_enter func129,ntmps129;go_wp2;have m:Below w.heap.size w (w.alloc (Obj.cells #[Value.int IntKind.i64 a,Value.int IntKind.i64 p] 47)):=(qan _ _).alloc (qad _) _;have l:(w.alloc (Obj.cells #[Value.int IntKind.i64 a,Value.int IntKind.i64 p] 47)).cell? ⟨w.heap.size,0,none⟩=some (.int .i64 a):=by simp [go_sem]
 have u:(w.alloc (Obj.cells #[Value.int IntKind.i64 a,Value.int IntKind.i64 p] 47)).cell? ⟨w.heap.size,1,none⟩=some (.int .i64 p):=by simp [go_sem]
 generalize w.alloc (Obj.cells #[Value.int IntKind.i64 a,Value.int IntKind.i64 p] 47)=W at m l u;have hE:=HE.o;have Y:=HD.o;have hW:=J.o;have Z:=D.o;have hM:=E.o;have M:w.heap.size<W.heap.size:=qbs _ _ l
 go_region_held3 (fun w'=>w'.cell? ⟨w.heap.size,0,none⟩=some (.int .i64 a)/\w'.cell? ⟨w.heap.size,1,none⟩=some (.int .i64 p)/\Below w.heap.size w w'/\w.heap.size<w'.heap.size)
  (first|exact ⟨l,u,m.trans ⟨rfl,rfl,rfl,qad _,fun _ _=>rfl⟩,M⟩|exact ⟨‹_›,‹_›,‹_›,‹_›⟩|go_keep)
  (first
   | (go_at_call 161;refine (zta _ w a p _ ?_).mono ?_;(first|assumption|exact ⟨‹_›,‹_›,‹_›,‹_›⟩);rintro e w' ⟨rfl,af,a6,a7,a8⟩)
   | (go_at_call 162;refine (G.o _).mono ?_;rintro e w' ⟨rfl,rfl⟩))
 go_wp2;go_ret;exact ⟨rfl,by first|assumption|exact (by assumption:_/\_/\Below w.heap.size w _/\_).2.2.1⟩
def addr_right.f (a p:Int):Option Bool:=
 some (if 0<=p/\p<=32/\0<=a/\a<=4294967295 then decide (a%2 ^ (32-p).toNat=0) else false)
theorem right_pure {a sz:Int} (h:1<=sz):decide (a=a/sz*sz)=decide (a%sz=0):=by
 have h1:=Int.mul_ediv_add_emod a sz;rw [Int.mul_comm] at h1;generalize a/sz*sz=q at h1;by_cases k:a%sz=0
 ·rw [qac k,qac kab]
 rw [qak k,qak kab]
theorem right_out (a p:Int) (w:World) (h:¬(0<=p/\p<=32/\0<=a/\a<=4294967295)) :
  Calls prog 129 #[.agg #[.int .i64 a,.int .i64 p]] w fun e w'=>e = .returned (.bool false)/\Below w.heap.size w w':=by
 by_cases k:0<=p
 ·by_cases h1:p<=32
  ·by_cases l:0<=a
   ·have u:¬a<=4294967295:=fun m=>h ⟨k,h1,l,m⟩;clear h;go_enter func129,ntmps129;go_wp2;go_ret;exact ⟨rfl,(qan _ _).alloc (qad _) _⟩
   clear h;go_enter func129,ntmps129;go_wp2;go_ret;exact ⟨rfl,(qan _ _).alloc (qad _) _⟩
  clear h;go_enter func129,ntmps129;go_wp2;go_ret;exact ⟨rfl,(qan _ _).alloc (qad _) _⟩
 clear h;go_enter func129,ntmps129;go_wp2;go_ret;exact ⟨rfl,(qan _ _).alloc (qad _) _⟩
theorem addr_right.calls (l k:Int) (r:Bool) (w:World) (h:addr_right.f l k=some r) :
  Calls prog 129 #[.agg #[.int .i64 l,.int .i64 k]] w fun e w'=>e = .returned (.bool r)/\Below w.heap.size w w':=by
 have h:=qaa h;subst h;by_cases m:0<=k/\k<=32/\0<=l/\l<=4294967295
 ·rw [if_pos m];obtain ⟨p,h1,u,x⟩:=m;obtain ⟨p0,p1⟩:=zus k p h1;rw [<-right_pure p0];exact right_in l k _ w p h1 u x p0 p1 (fun w=>size_any k w p h1)
 rw [if_neg m];exact right_out l k w m
end
end Go.Proofs.YtjeekocidaogoaaGreatDoor.Hand
section
namespace Go.Proofs.YtjeekocidaogoaaGreatDoor.Hand
open Go.RowKit Go.Proofs.YtjeekocidaogoaaGreatDoorW.PrintWords Go.Proofs.YtjeekocidaogoaaGreatDoorW.PrintLast Go.Proofs.YtjeekocidaogoaaGreatDoorW.PrintMore
def Row (W:World) (b ty sz:Nat) (v:Value) (n:Nat) (xs:List Value):Prop:=
 xs.length=n*sz/\((v = .slice none 0 0/\n=0)\/∃ g cap cur,v = .slice (some ⟨g,0,none⟩) n cap/\b<=g/\W.heap[g]?=some (.cells cur ty (0,0))/\n<=cap/\cap<=maxLen/\cap*sz<=cur.size/\cur.toList.take (n*sz)=xs)
def zua (c c':Nat->Option Value) (n:Nat) (news:List Value):Prop:=∀ j,c' j=c j\/(n<=j/\j<n+news.length/\c' j=news[j-n]?)
section
variable {W w1:World} {b ty sz n:Nat} {v:Value} {xs:List Value}
theorem Row.nil (W:World) (b ty sz:Nat):Row W b ty sz (.slice none 0 0) 0 []:=⟨by simp,.inl ⟨rfl,rfl⟩⟩
theorem Row.form (h:Row W b ty sz v n xs):∃ A cap,v = .slice A n cap/\n<=cap/\(0<n->∃ g cur,A=some ⟨g,0,none⟩/\v.ownBlock=some g/\b<=g/\W.heap[g]?=some (.cells cur ty (0,0))/\cap<=maxLen/\cap*sz<=cur.size/\cur.toList.take (n*sz)=xs):=by
 rcases h.2 with ⟨rfl,rfl⟩|⟨g,cap,cur,rfl,k,hg,hn,m,l,ht⟩
 ·exact ⟨none,0,rfl,qad _,fun h=>absurd h kad⟩
 exact ⟨_,cap,rfl,hn,fun _=>⟨g,cur,rfl,rfl,k,hg,m,l,ht⟩⟩
theorem Row.blk (h:Row W b ty sz v n xs) {g:Nat} (hg:v.ownBlock=some g):b<=g/\g<W.heap.size/\∃ cur,W.heap[g]?=some (.cells cur ty (0,0)):=by
 rcases h.2 with ⟨rfl,_⟩|⟨k,cap,cur,rfl,l,hh,_⟩
 ·simp [Value.ownBlock] at hg
 have:k=g:=by simpa [Value.ownBlock] using hg
 subst this;exact ⟨l,zam hh,cur,hh⟩
theorem Row.frame (h:Row W b ty sz v n xs) (hf:∀ g,v.ownBlock=some g->w1.heap[g]?=W.heap[g]?):Row w1 b ty sz v n xs:=by
 refine ⟨h.1,?_⟩;rcases h.2 with hn|⟨g,cap,cur,rfl,k,hh,r⟩
 ·exact .inl hn
 exact .inr ⟨g,cap,cur,rfl,k,(hf g rfl).trans hh,r⟩
theorem Row.grown (h:Row W b ty sz v n xs) {row:Option Nat} (hg:W.grownBy w1 row) (m:v.ownBlock=none\/v.ownBlock≠row):Row w1 b ty sz v n xs:=
 h.frame fun g k=>hg.block g (h.blk k).2.1 (fun l=>by
  rcases m with e|e
  ·rw [e] at k;cases k
  exact e (k.trans l))
theorem Row.alloc (h:Row W b ty sz v n xs) (o:Obj):Row (W.alloc o) b ty sz v n xs:=h.frame fun g k=>qbm W o g (h.blk k).2.1
theorem Row.setCell (h:Row W b ty sz v n xs) {p:Addr} (k:v.ownBlock≠some p.block) (u:Value):Row (W.setCell p u) b ty sz v n xs:=
 h.frame fun g l=>qbn W p u g (fun e=>k (by rw [l,e]))
theorem Row.clip {A:Option Addr} {c:Nat} (h:Row W b ty sz (.slice A n c) n xs):Row W b ty sz (.slice A n n) n xs:=by
 refine ⟨h.1,?_⟩;rcases h.2 with ⟨k,rfl⟩|⟨g,cap,cur,k,p,hh,hn,x,u,ht⟩
 ·injection k with h1 m l;subst h1;exact .inl ⟨rfl,rfl⟩
 injection k with h1 m l;subst h1;subst l;exact .inr ⟨g,n,cur,rfl,p,hh,qad _,qas hn x,qas (qbp _ hn) u,ht⟩
theorem Row.cell (h:Row W b ty sz v n xs) {g:Nat} (hg:v.ownBlock=some g):∀ j u,xs[j]?=some u->W.cell? ⟨g,j,none⟩=some u:=by
 intro j u hu;rcases h.2 with ⟨rfl,_⟩|⟨k,cap,cur,rfl,l,hh,hn,p,m,ht⟩
 ·simp [Value.ownBlock] at hg
 have:k=g:=by simpa [Value.ownBlock] using hg
 subst this;rw [zab hh,<-Array.getElem?_toList];rw [<-ht,List.getElem?_take] at hu;split at hu
 ·exact hu
 cases hu
theorem Row.lower {b':Nat} (h:Row W b ty sz v n xs) (k:b'<=b):Row W b' ty sz v n xs:=by
 refine ⟨h.1,?_⟩;rcases h.2 with hn|⟨g,cap,cur,rfl,l,r⟩
 ·exact .inl hn
 exact .inr ⟨g,cap,cur,rfl,qas k l,r⟩
theorem Row.apart {b' m z n':Nat} {u:Value} {ys:List Value} (h:Row W b ty sz v n xs) (k:Row W b' m z u n' ys) (x:ty≠m):v.ownBlock=none\/v.ownBlock≠u.ownBlock:=by
 cases y:v.ownBlock with
 | none=>exact .inl rfl
 | some g=>
  refine .inr fun hu=>?_;obtain ⟨_,_,cs,h1⟩:=h.blk y;obtain ⟨_,_,ds,l⟩:=k.blk hu.symm;rw [h1] at l;injection l with l;injection l with _ p;exact x p
theorem Row.ne {g t:Nat} {cs:Array Value} (h:Row W b ty sz v n xs) (hg:W.heap[g]?=some (.cells cs t (0,0))) (m:ty≠t):v.ownBlock≠some g:=by
 intro p;obtain ⟨_,_,ds,k⟩:=h.blk p;rw [hg] at k;injection k with k;injection k with _ l;exact m l.symm
end
structure Fr (W W':World) (S:Nat->Prop):Prop where
 os:W'.os=W.os
 tape:W'.tape=W.tape
 output:W'.output=W.output
 size:W.heap.size<=W'.heap.size
 block:∀ k,k<W.heap.size->¬S k->W'.heap[k]?=W.heap[k]?
namespace Fr
variable {W W1 W2 w0:World} {S S' S2:Nat->Prop}
theorem refl (W:World) (S:Nat->Prop):Fr W W S:=⟨rfl,rfl,rfl,qad _,fun _ _ _=>rfl⟩
theorem then_ (h:Fr W W1 S) (k:Fr W1 W2 S2) (hs:∀ k,S2 k->S k\/W.heap.size<=k):Fr W W2 S:=
 ⟨k.os.trans h.os,k.tape.trans h.tape,k.output.trans h.output,qas h.size k.size,fun i hi hn=>
  (k.block i (qce hi h.size) (fun m=>by rcases hs i m with l|l;exact hn l;omega)).trans (h.block i hi hn)⟩
theorem trans (h:Fr W W1 S) (k:Fr W1 W2 S):Fr W W2 S:=h.then_ k (fun _ h => .inl h)
theorem mono (h:Fr W W1 S) (hs:∀ k,S k->S' k\/W.heap.size<=k):Fr W W1 S':=(refl W S').then_ h hs
theorem drewN (h:Fr W W1 S) (n:Nat):Fr W (W1.drewN n) S:=⟨h.os,h.tape,h.output,h.size,h.block⟩
theorem drew (h:Fr W W1 S):Fr W W1.drew S:=⟨h.os,h.tape,h.output,h.size,h.block⟩
theorem undrew (h:Fr W.drew W1 S):Fr W W1 S:=⟨h.os,h.tape,h.output,h.size,h.block⟩
theorem alloc (h:Fr W W1 S) (o:Obj):Fr W (W1.alloc o) S:=
 ⟨h.os,h.tape,h.output,qas h.size (by simp),fun k hk hn=>(qbm W1 o k (qce hk h.size)).trans (h.block k hk hn)⟩
theorem setCell (h:Fr W W1 S) {p:Addr} (hp:S p.block\/W.heap.size<=p.block) (u:Value):Fr W (W1.setCell p u) S:=
 ⟨h.os,h.tape,h.output,qas h.size (by simp [World.setCell]),fun k hk hn=>(qbn W1 p u k (fun e=>by subst e;rcases hp with hp|hp;exact hn hp;omega)).trans (h.block k hk hn)⟩
theorem of_grown {row:Option Nat} (h:W.grownBy W1 row) (hr:∀ k,row=some k->S k):Fr W W1 S:=
 ⟨h.os,h.tape,h.output,h.size,fun k hk hn=>h.block k hk (fun e=>hn (hr k e.symm))⟩
theorem of_below (h:Below W.heap.size W W1):Fr W W1 S:=⟨h.os,h.tape,h.output,h.size,fun k hk _=>h.block k hk⟩
theorem below {b:Nat} (h:Fr W W1 S) (hs:∀ k,S k->b<=k) (p:b<=W.heap.size) (l:Below b w0 W):Below b w0 W1:=
 l.trans ⟨h.os,h.tape,h.output,h.size,fun k hk=>h.block k kab (fun m=>by have:=hs k m;omega)⟩
theorem blk {g t:Nat} {cs:Array Value} (h:Fr W W1 S) (hg:W.heap[g]?=some (.cells cs t (0,0))) (hn:¬S g):W1.heap[g]?=some (.cells cs t (0,0)):=(h.block g (zam hg) hn).trans hg
end Fr
theorem Row.fr {W w1:World} {b ty sz n:Nat} {v:Value} {xs:List Value} {S:Nat->Prop} (h:Row W b ty sz v n xs) (hf:Fr W w1 S) (hn:∀ g,v.ownBlock=some g->¬S g):Row w1 b ty sz v n xs:=
 h.frame fun g k=>hf.block g (h.blk k).2.1 (hn g k)
section
variable {P:Program} {W:World}
theorem zmz (b:Nat) (t ty e:TypeId) (i:TypeInfo) (z:Value) (size bytes:Nat) (ht:P.underlying t=some (.slice e)) (hi:P.info? e=some i) (Y:i.zero=some z)
  (aD:i.size=size) (a6:i.bytes=bytes) (aF:z.cells.size=size) (aK:0<size)
  (v:Value) (n:Nat) (xs:List Value) (p:Row W b e size v n xs)
  (a:Addr) (c:Nat) (news:List Value) (D:news.length=size) (M:∀ j u,news[j]?=some u->W.cell? (a.add j)=some u) (h1:∀ u∈news,u.oneCell'=true)
  (U:n+1<=maxLen) (X:(n+1)*bytes<=140737488355328) (ad:b<=W.heap.size) :
  ∃ y w',(Builtin.append_ #[t,t] ty #[v,.slice (some a) 1 c]).run P W = .ok y w'/\Row w' b e size y (n+1) (xs++news)/\W.grownBy w' v.ownBlock /\
   (y.ownBlock=v.ownBlock\/y.ownBlock=some W.heap.size)/\y.ownBlock≠none /\
   ∀ g cs,v.ownBlock=some g->W.heap[g]?=some (.cells cs e (0,0))->∃ cs',w'.heap[g]?=some (.cells cs' e (0,0))/\zua (fun j=>cs[j]?) (fun j=>cs'[j]?) (n*size) news:=by
 subst aD;subst a6;have aJ:n+1<=9223372036854775807:=by simp only [maxLen] at U;omega
 have E:(xs++news).length=(n+1)*i.size:=by rw [qal,p.1,D,Nat.add_mul,Nat.one_mul]
 have L:news.length=1*i.size:=by rw [D,Nat.one_mul]
 have grown:∀ l:Nat,∀ row:Option Nat,
   Row (W.drew.alloc (.cells (xs.toArray++news.toArray++Builtin.zeroCells z.cells (grownCap W (n+1) l e-(n+1))) e)) b e i.size (.slice (some ⟨W.heap.size,0,none⟩) (n+1) (grownCap W (n+1) l e)) (n+1) (xs++news) /\
   W.grownBy (W.drew.alloc (.cells (xs.toArray++news.toArray++Builtin.zeroCells z.cells (grownCap W (n+1) l e-(n+1))) e)) row:=by
  intro l row;have aC:=grownCap_ge W (n+1) l e;refine ⟨⟨E,.inr ⟨W.heap.size,_,_,rfl,ad,qab W.drew _,aC,grownCap_le_maxLen W (n+1) l e U,?_,?_⟩⟩,⟨rfl,rfl,rfl,by simp,fun k hk _=>qbm W.drew _ k hk⟩⟩
  ·have aA:(Builtin.zeroCells z.cells (grownCap W (n+1) l e-(n+1))).size=(grownCap W (n+1) l e-(n+1))*i.size:=(by rw [size_zeroCells,aF]);simp only [Array.size_append,List.size_toArray,aA,p.1,D];have:grownCap W (n+1) l e*i.size=(n+1)*i.size+(grownCap W (n+1) l e-(n+1))*i.size:=(by rw [<-Nat.add_mul];congr 1;omega);rw [this,Nat.add_mul,Nat.one_mul];exact qad _
  simp only [Array.toList_append,qbl];rw [<-qbl,<-E];exact List.take_left
 rcases p.2 with ⟨rfl,rfl⟩|⟨g,cap,cur,rfl,af,hg,aI,a8,aH,aE⟩
 ·have hx:xs=[]:=List.eq_nil_of_length_eq_zero (by simpa using p.1);subst hx;have hr:=run_append_nil (P:=P) W t ty e i z ht hi Y a 1 c news L M kab kab (by have hb:=X;simp only [Nat.zero_add] at hb;omega);have m:=grown 0 (Value.ownBlock (.slice none 0 0));simp only [Nat.zero_add,List.nil_append,Array.empty_append] at m ⊢;exact ⟨_,_,hr,m.1,m.2,.inr rfl,by simp [Value.ownBlock],fun g cs x=>by simp [Value.ownBlock] at x⟩
 by_cases O:n+1<=cap
 ·have aB:n*i.size+news.length<=cur.size:=by
   rw [D];have:(n+1)*i.size<=cap*i.size:=qbp _ O;rw [Nat.add_mul] at this;omega
  have hr:=run_append_room (P:=P) W t ty e i ht hi g n cap cur hg a 1 c news L M h1 O aB;have aG:cur.toList.length=cur.size:=Array.length_toList;refine ⟨_,_,hr,⟨E,.inr ⟨g,cap,_,rfl,af,setRow_heap W g cur _ e _ hg,O,a8,?_,?_⟩⟩,⟨rfl,rfl,rfl,by simp,fun k _ hk=>setRow_other W g k _ (fun e=>hk (by simp [Value.ownBlock,e]))⟩,.inl rfl,by simp [Value.ownBlock],fun G cs x A=>?_⟩
  ·simp only [List.size_toArray,qal,qbq,qbr,Array.length_toList];omega
  ·rw [aE,<-E];exact List.take_left
  have J:g=G:=by simpa [Value.ownBlock] using x
  subst J;rw [hg] at A;have a7:cur=cs:=by injection A with h;injection h
  subst a7;refine ⟨_,setRow_heap W g cur _ e _ hg,fun j=>?_⟩;simp only [qaj];by_cases j1:j<n*i.size
  ·left;rw [qbl,qbg (by rw [qbq];omega),List.getElem?_take,if_pos j1,Array.getElem?_toList]
  by_cases j2:j<n*i.size+news.length
  ·right;refine ⟨kab,j2,?_⟩;rw [qbl,qbd (by rw [qbq];omega),qbg (by rw [qbq];omega),qbq,Nat.min_eq_left kab]
  left;rw [qbd (by rw [qal,qbq];omega),qal,qbq,Nat.min_eq_left kab,List.getElem?_drop,Array.getElem?_toList];congr 1;omega
 have holds:∀ j u,xs[j]?=some u->W.cell? ((⟨g,0,none⟩:Addr).add j)=some u:=by
  intro j u hu;have Z:(⟨g,0,none⟩:Addr).add j=⟨g,j,none⟩:=by unfold Addr.add;split<;>simp_all
  rw [Z];exact p.cell rfl j u hu
 have hr:=run_append_grow (P:=P) W t ty e i z ht hi Y ⟨g,0,none⟩ n cap xs p.1 holds a 1 c news L M kab kab (growslice_fits kab X);have m:=grown cap (Value.ownBlock (.slice (some ⟨g,0,none⟩) n cap));refine ⟨_,_,hr,m.1,m.2,.inr rfl,by simp [Value.ownBlock],fun G cs x A=>?_⟩;have J:g=G:=by simpa [Value.ownBlock] using x
 subst J;exact ⟨cs,(qbm W.drew _ g (zam hg)).trans A,fun j => .inl rfl⟩
variable {ops:Array Oper} {rest:List Oper} {o:Oper} {a:Act} {Q:Exit->Act->World->Prop}
theorem zbi {w0:World} (b:Nat) (J:o.guard=none) (s x:Operand) (t e:TypeId) (z:Value) (size bytes:Nat)
  (U:o.op = .call { callee := .builtin .append,args:=#[s,x],argTypes:=#[t,t] })
  (ht:P.underlying t=some (.slice e)) (L:(P.info? e).map (fun i=>(i.zero,i.size,i.bytes))=some (some z,size,bytes)) (hz:z.cells.size=size) (X:0<size)
  (v:Value) (n:Nat) (xs ys:List Value) (hs:a.eval s=v) (Y:a.eval x = .slice (some ⟨W.heap.size,0,none⟩) 1 1) (Z:ys.length=size) (h1:∀ u∈ys,u.oneCell'=true)
  (p:Row W b e size v n xs) (a7:b<=W.heap.size) (O:n+1<=maxLen) (M:(n+1)*bytes<=140737488355328)
  (h:∀ v1 w1,Row w1 b e size v1 (n+1) (xs++ys)->W.grownBy w1 v.ownBlock->(v1.ownBlock=v.ownBlock\/v1.ownBlock=some (W.heap.size+1))->v1.ownBlock≠none ->
   (∀ g cs,v.ownBlock=some g->W.heap[g]?=some (.cells cs e (0,0))->∃ cs',w1.heap[g]?=some (.cells cs' e (0,0))/\zua (fun j=>cs[j]?) (fun j=>cs'[j]?) (n*size) ys)->wpList P ops Q rest (a.put o.dst v1) w1) :
  wpList P ops Q (o::rest) a (W.alloc (.cells ys.toArray e)):=by
 obtain ⟨i0,hi,m⟩:=qbu.1 L;simp only [qap] at m;obtain ⟨ad,af,a6⟩:=m;refine wpList_plain J fun K G=>?_;obtain ⟨v',w',hr,y,A,k,D,E⟩:=zmz (P:=P) (W:=W.alloc (.cells ys.toArray e)) b t o.type e i0 z size bytes ht hi ad af a6 hz X v n xs (p.alloc _) ⟨W.heap.size,0,none⟩ 1 ys Z
  kbt h1 O M kbl
 unfold Oper.wp execOp;simp only [U,resolve,invoke,builtin,Sem.run_bind,Sem.run_pure,Result.andThen_ok,List.map_toArray,qcf,List.map_nil,hs,Y,hr];refine G _ _ (h v' w' y (World.grownBy.trans (World.grownBy_alloc W _ _) A) ?_ D ?_)
 ·rcases k with k|k
  ·exact .inl k
  exact .inr (by simpa using k)
 intro g cs hg l;exact E g cs hg ((qbm W _ g (zam l)).trans l)
variable {K:Act->World->Prop}
theorem zch (b:Nat) (M:Region.wanted o (yielded ops a.tmps)=true) (s x:Operand) (t e:TypeId) (z:Value) (size bytes:Nat)
  (J:o.op = .call { callee := .builtin .append,args:=#[s,x],argTypes:=#[t,t] })
  (ht:P.underlying t=some (.slice e)) (D:(P.info? e).map (fun i=>(i.zero,i.size,i.bytes))=some (some z,size,bytes)) (X:z.cells.size=size) (L:0<size)
  (v:Value) (n:Nat) (xs ys:List Value) (hs:a.eval s=v) (O:a.eval x = .slice (some ⟨W.heap.size,0,none⟩) 1 1) (U:ys.length=size) (h1:∀ u∈ys,u.oneCell'=true)
  (m:Row W b e size v n xs) (af:b<=W.heap.size) (G:n+1<=maxLen) (E:(n+1)*bytes<=140737488355328)
  (h:∀ v1 w1,Row w1 b e size v1 (n+1) (xs++ys)->W.grownBy w1 v.ownBlock->(v1.ownBlock=v.ownBlock\/v1.ownBlock=some (W.heap.size+1))->v1.ownBlock≠none->K (a.put o.dst v1) w1) :
  if Region.wanted o (yielded ops a.tmps)=true then Oper.wp P o a (W.alloc (.cells ys.toArray e)) K Q else K (a.put o.dst undef) (W.alloc (.cells ys.toArray e)):=by
 obtain ⟨i0,hi,l⟩:=qbu.1 D;simp only [qap] at l;obtain ⟨Y,Z,ad⟩:=l;rw [if_pos M];obtain ⟨v',w',hr,p,y,k,A,h6⟩:=zmz (P:=P) (W:=W.alloc (.cells ys.toArray e)) b t o.type e i0 z size bytes ht hi Y Z ad X L v n xs (m.alloc _) ⟨W.heap.size,0,none⟩ 1 ys U
  kbt h1 G E kbl
 unfold Oper.wp execOp;simp only [J,resolve,invoke,builtin,Sem.run_bind,Sem.run_pure,Result.andThen_ok,List.map_toArray,qcf,List.map_nil,hs,O,hr];refine h v' w' p (World.grownBy.trans (World.grownBy_alloc W _ _) y) ?_ A;rcases k with k|k
 ·exact .inl k
 exact .inr (by simpa using k)
end
end Go.Proofs.YtjeekocidaogoaaGreatDoor.Hand
end
namespace Go.Proofs.YtjeekocidaogoaaGreatDoor.Hand
open Go.RowKit Go.Proofs.YtjeekocidaogoaaGreatDoorW.PrintWords Go.Proofs.YtjeekocidaogoaaGreatDoorW.PrintLast Go.Proofs.YtjeekocidaogoaaGreatDoorW.PrintMore
section
structure Tok where
 kind:Int
 text:ByteArray
 num:Int
 pa:Int
 pb:Int
 place:Int
def Tok.cells (t:Tok):List Value:=[.int .i64 t.kind,.string t.text,.int .i64 t.num,.int .i64 t.pa,.int .i64 t.pb,.int .i64 t.place]
abbrev Tok.val (t:Tok):Value := .agg #[.int .i64 t.kind,.string t.text,.int .i64 t.num,.int .i64 t.pa,.int .i64 t.pb,.int .i64 t.place]
def Toks (W:World) (T:Nat) (toks:List Tok):Prop:=∃ cs,W.heap[T]?=some (.cells cs 49 (0,0))/\∀ j t,toks[j]?=some t->∀ r,r<6->cs[j*6+r]?=(t.cells)[r]?
structure PSt (W:World) (g T c:Nat) (toks:List Tok) (i:Nat):Prop where
 src:W.heap[g]?=some (.cells #[.slice (some ⟨T,0,none⟩) toks.length c,.int .i64 i] 73 (0,0))
 tok:Toks W T toks
 many:toks.length<=8001
theorem Toks.cell {W:World} {T:Nat} {toks:List Tok} (h:Toks W T toks) {j:Nat} {t:Tok} (l:toks[j]?=some t) :
  W.cell? ⟨T,j*6,none⟩=some (.int .i64 t.kind)/\W.cell? ⟨T,j*6+1,none⟩=some (.string t.text)/\W.cell? ⟨T,j*6+2,none⟩=some (.int .i64 t.num) /\
  W.cell? ⟨T,j*6+3,none⟩=some (.int .i64 t.pa)/\W.cell? ⟨T,j*6+4,none⟩=some (.int .i64 t.pb)/\W.cell? ⟨T,j*6+5,none⟩=some (.int .i64 t.place):=by
 obtain ⟨cs,h1,k⟩:=h;refine ⟨(zab h1 _).trans (k j t l 0 kad),(zab h1 _).trans (k j t l 1 kad),(zab h1 _).trans (k j t l 2 kad),(zab h1 _).trans (k j t l 3 kad),(zab h1 _).trans (k j t l 4 kad),(zab h1 _).trans (k j t l 5 kad)⟩
theorem PSt.blk {W w1:World} {g T c i:Nat} {toks:List Tok} (h:PSt W g T c toks i) (hs:w1.heap[g]?=W.heap[g]?) (ht:w1.heap[T]?=W.heap[T]?):PSt w1 g T c toks i:=
 ⟨hs.trans h.src,by obtain ⟨cs,h1,k⟩:=h.tok;exact ⟨cs,ht.trans h1,k⟩,h.many⟩
theorem PSt.lts {W:World} {g T c i:Nat} {toks:List Tok} (h:PSt W g T c toks i):g<W.heap.size/\T<W.heap.size/\g≠T:=by
 obtain ⟨cs,h1,_⟩:=h.tok;refine ⟨zam h.src,zam h1,?_⟩;rintro rfl;have:=h.src;rw [h1] at this;injection this with this;injection this with _ k;exact absurd k kad
theorem PSt.fr {W w1:World} {g T c i:Nat} {toks:List Tok} {S:Nat->Prop} (h:PSt W g T c toks i) (hf:Fr W w1 S) (hg:¬S g) (k:¬S T):PSt w1 g T c toks i:=
 h.blk (hf.block g h.lts.1 hg) (hf.block T h.lts.2.1 k)
theorem PSt.alloc {W:World} {g T c i:Nat} {toks:List Tok} (h:PSt W g T c toks i) (o:Obj):PSt (W.alloc o) g T c toks i:=
 h.blk (qbm W o g h.lts.1) (qbm W o T h.lts.2.1)
theorem PSt.below {W w1:World} {g T c i:Nat} {toks:List Tok} (h:PSt W g T c toks i) (k:Below W.heap.size W w1):PSt w1 g T c toks i:=
 h.blk (k.block g h.lts.1) (k.block T h.lts.2.1)
theorem PSt.drew {W:World} {g T c i:Nat} {toks:List Tok} (h:PSt W g T c toks i):PSt W.drew g T c toks i:=⟨h.src,h.tok,h.many⟩
theorem zvf {α:Type} {l:List α} {i:Nat} {t:α} (h:l[i]?=some t):i<l.length:=(qav.1 h).1
theorem PSt.step {W:World} {g T c i:Nat} {toks:List Tok} (h:PSt W g T c toks i):PSt (W.setCell ⟨g,1,none⟩ (.int .i64 ((i:Int)+1))) g T c toks (i+1):=by
 obtain ⟨cs,k,l⟩:=h.tok;exact ⟨zan h.src 1 _ rfl,⟨cs,zav k h.lts.2.2.symm _,l⟩,h.many⟩
theorem PSt.facts {W:World} {g T c i:Nat} {toks:List Tok} (h:PSt W g T c toks i):W.cell? ⟨g,0,none⟩=some (.slice (some ⟨T,0,none⟩) toks.length c)/\W.cell? ⟨g,1,none⟩=some (.int .i64 i)/\W.frozen? ⟨g,1,none⟩=false:=
 ⟨zab h.src 0,zab h.src 1,zac h.src 1⟩
section
variable (a:Int) (s:ByteArray) (b c d e:Int) (w:World)
theorem zpa:(Instr.field 49 (.agg #[.int .i64 a,.string s,.int .i64 b,.int .i64 c,.int .i64 d,.int .i64 e]) 0).run prog w = .ok (.int .i64 a) w:=kae
theorem zgy:(Instr.field 49 (.agg #[.int .i64 a,.string s,.int .i64 b,.int .i64 c,.int .i64 d,.int .i64 e]) 1).run prog w = .ok (.string s) w:=kae
theorem zrf:(Instr.field 49 (.agg #[.int .i64 a,.string s,.int .i64 b,.int .i64 c,.int .i64 d,.int .i64 e]) 2).run prog w = .ok (.int .i64 b) w:=kae
theorem tok_f3:(Instr.field 49 (.agg #[.int .i64 a,.string s,.int .i64 b,.int .i64 c,.int .i64 d,.int .i64 e]) 3).run prog w = .ok (.agg #[.int .i64 c,.int .i64 d]) w:=kae
theorem zsn:(Instr.field 49 (.agg #[.int .i64 a,.string s,.int .i64 b,.int .i64 c,.int .i64 d,.int .i64 e]) 4).run prog w = .ok (.int .i64 e) w:=kae
end
theorem zcv (W:World) (g T c:Nat) (toks:List Tok) (i:Nat) (t:Tok) (ht:toks[i]?=some t) (h:PSt W g T c toks i) :
  Calls prog 28 #[.pointer (some ⟨g,0,none⟩)] W fun e W'=>e = .returned (.agg #[.int .i64 t.kind,.string t.text,.int .i64 t.num,.int .i64 t.pa,.int .i64 t.pb,.int .i64 t.place])/\Below W.heap.size W W':=by
 have l:=fun o=>(h.alloc o).facts;have u:=fun o=>(l o).1;have x:=fun o=>(l o).2.1;have k:=fun o=>(h.alloc o).tok.cell ht;have d0:=fun o=>(k o).1;have d1:=fun o=>(k o).2.1;have d2:=fun o=>(k o).2.2.1;have d3:=fun o=>(k o).2.2.2.1;have d4:=fun o=>(k o).2.2.2.2.1;have d5:=fun o=>(k o).2.2.2.2.2;have m:=zvf ht;have p:=h.many;clear h l k ht;go_enter func28,ntmps28;go_wp2;go_region;all_goals (try go_wp2)
 refine qaf (qau rfl _ _ W.heap.size 49 #[.int .i64 t.kind,.string t.text,.int .i64 t.num,.int .i64 t.pa,.int .i64 t.pb,.int .i64 t.place] (0,0) _ rfl (by exact qab W _) underlying49 rfl kae) rfl ?_;exact ⟨rfl,((qan _ _).alloc (qad _) _).drew⟩
def zho (e at_:Int):PanicEntry:={ v := .iface 70 (.agg #[.int .i64 e,.int .i64 at_]),recovered:=false }
theorem zer (W:World) (g T c:Nat) (toks:List Tok) (i:Nat) (t:Tok) (ht:toks[i]?=some t) (e:Int) (h:PSt W g T c toks i) :
  Calls prog 51 #[.pointer (some ⟨g,0,none⟩),.int .i64 e] W fun e' W'=>e' = .panicked [zho e t.place]/\Below W.heap.size W W':=by
 have k:=zq (zcv W g T c toks i t ht h);have m:=zsn;clear ht h;go_enter func51,ntmps51;go_wp2_with (go_at_call 28;refine k.o.mono ?_;rintro e' w' ⟨rfl,l⟩);go_wp2;exact ⟨rfl,rfl,l⟩
def isT (t:Tok) (s:ByteArray):Bool:=(t.kind==1||t.kind==7)&&t.text.toList==s.toList
theorem zcd {t:Tok} {s:ByteArray} (h:isT t s=true):t.kind≠8:=by
 unfold isT at h;rw [qbj,Bool.or_eq_true,qar,qar] at h;omega
theorem is_calls (W:World) (g T c:Nat) (toks:List Tok) (i:Nat) (t:Tok) (ht:toks[i]?=some t) (s:ByteArray) (h:PSt W g T c toks i) :
  Calls prog 111 #[.pointer (some ⟨g,0,none⟩),.string s] W fun e W'=>e = .returned (.bool (isT t s))/\Below W.heap.size W W':=by
 have l:=zq (zcv W g T c toks i t ht h);clear ht h;go_enter func111,ntmps111;go_wp2_with (go_at_call 28;refine l.o.mono ?_;rintro e' w' ⟨rfl,k⟩);all_goals go_ret
 all_goals refine ⟨?_,k.alloc (Nat.le_of_lt_succ (Nat.lt_succ_of_le k.size)) _⟩
 all_goals simp [isT, *]
theorem zcp (W:World) (g T c:Nat) (toks:List Tok) (i:Nat) (t:Tok) (ht:toks[i]?=some t) (s:ByteArray) (h:PSt W g T c toks i) :
  Calls prog 78 #[.pointer (some ⟨g,0,none⟩),.string s] W fun e W'=>e = .returned (.bool (isT t s))/\PSt W' g T c toks (if isT t s=true then i+1 else i)/\Fr W W' (·=g):=by
 have l:=zq (is_calls W g T c toks i t ht s h);have p:=zq h;have y:=h.many;have x:=zvf ht;clear ht h;generalize isT t s=b at l ⊢;cases b with
 | false=>
  go_enter func78,ntmps78;go_wp2_with (go_at_call 111;refine l.o.mono ?_;rintro e' w' ⟨rfl,k⟩);go_ret;exact ⟨rfl,p.o.below k,Fr.of_below k⟩
 | true=>
  go_enter func78,ntmps78;go_wp2_with (go_at_call 111;refine l.o.mono ?_;rintro e' w' ⟨rfl,k⟩;have m:=p.o.below k;obtain ⟨z,A,D⟩:=m.facts;have u:=zq m;clear m);go_ret;exact ⟨rfl,u.o.step,Fr.setCell (S:=(·=g)) (Fr.of_below k) (.inl rfl) _⟩
theorem zeh (W:World) (g T c:Nat) (toks:List Tok) (i:Nat) (t:Tok) (ht:toks[i]?=some t) (s:ByteArray) (h:PSt W g T c toks i) :
  Calls prog 53 #[.pointer (some ⟨g,0,none⟩),.string s] W fun e W'=>
   (if isT t s=true then e = .returned (.tuple #[])/\PSt W' g T c toks (i+1) else e = .panicked [zho 90 t.place])/\Fr W W' (·=g):=by
 have k:=zq (zcp W g T c toks i t ht s h);have m:=zq (fun W' (p:PSt W' g T c toks i)=>zer W' g T c toks i t ht 90 p);clear ht h;generalize isT t s=b at k ⊢;cases b with
 | false=>
  go_enter func53,ntmps53;go_wp2_with (first|(go_at_call 78;refine k.o.mono ?_;rintro e' w' ⟨rfl,l,hF⟩)|(go_at_call 51;refine (m.o _ l).mono ?_;rintro e' x ⟨rfl,u⟩));exact ⟨rfl,rfl,hF.trans (Fr.of_below u)⟩
 | true=>
  go_enter func53,ntmps53;go_wp2_with (go_at_call 78;refine k.o.mono ?_;rintro e' w' ⟨rfl,l,hF⟩);first|go_end0|(refine qaf (qbb rfl _ _ _) rfl ?_)
  exact ⟨⟨rfl,l⟩,hF⟩
theorem zhs {W:World} {g t:Nat} {a0 a1 a2 a3 a4 a5:Value} (h:W.heap[g]?=some (.cells #[a0,a1,a2,a3,a4,a5] t (0,0))) (v0 v1 v2 v3 v4 v5:Value) :
  ((((((W.setCell ⟨g,0,none⟩ v0).setCell ⟨g,1,none⟩ v1).setCell ⟨g,2,none⟩ v2).setCell ⟨g,3,none⟩ v3).setCell ⟨g,4,none⟩ v4).setCell ⟨g,5,none⟩ v5).heap[g]?=some (.cells #[v0,v1,v2,v3,v4,v5] t (0,0)):=
 zan (zan (zan (zan (zan (zan h 0 v0 rfl) 1 v1 rfl) 2 v2 rfl) 3 v3 rfl) 4 v4 rfl) 5 v5 rfl
theorem PSt.far {W:World} {g T c i:Nat} {toks:List Tok} (h:PSt W g T c toks i) {p:Addr} (h1:g≠p.block) (k:T≠p.block) (v:Value):PSt (W.setCell p v) g T c toks i:=
 h.blk (qbn W p v g h1) (qbn W p v T k)
theorem of_facts {W w':World} {g T c i:Nat} {toks:List Tok} (h:PSt W g T c toks i) (m:Below (W.alloc (.cells #[.int .i64 0,.string ⟨#[]⟩,.int .i64 0,.int .i64 0,.int .i64 0,.int .i64 0] 49)).heap.size (W.alloc (.cells #[.int .i64 0,.string ⟨#[]⟩,.int .i64 0,.int .i64 0,.int .i64 0,.int .i64 0] 49)) w')
  (o:Obj) (v0 v1 v2 v3 v4 v5:Value) (y:o = .cells #[v0,v1,v2,v3,v4,v5] 49) :
  Zq (PSt ((w'.alloc o).setCell ⟨g,1,none⟩ (.int .i64 ((i:Int)+1))) g T c toks (i+1))/\Zq (((w'.alloc o).setCell ⟨g,1,none⟩ (.int .i64 ((i:Int)+1))).heap[W.heap.size]?=some (.cells #[.int .i64 0,.string ⟨#[]⟩,.int .i64 0,.int .i64 0,.int .i64 0,.int .i64 0] 49 (0,0))) /\
  Zq (Fr W ((w'.alloc o).setCell ⟨g,1,none⟩ (.int .i64 ((i:Int)+1))) (·=g))/\Zq (g≠W.heap.size/\T≠W.heap.size) /\
  g≠w'.heap.size/\(w'.alloc o).cell? ⟨g,1,none⟩=some (.int .i64 i)/\(w'.alloc o).frozen? ⟨g,1,none⟩=false /\
  (let W2:=(w'.alloc o).setCell ⟨g,1,none⟩ (.int .i64 ((i:Int)+1))
  W2.cell? ⟨w'.heap.size,0,none⟩=some v0/\W2.cell? ⟨w'.heap.size,1,none⟩=some v1/\W2.cell? ⟨w'.heap.size,2,none⟩=some v2/\W2.cell? ⟨w'.heap.size,3,none⟩=some v3/\W2.cell? ⟨w'.heap.size,4,none⟩=some v4/\W2.cell? ⟨w'.heap.size,5,none⟩=some v5 /\
  W2.cell? ⟨W.heap.size,0,none⟩=some (.int .i64 0)/\W2.cell? ⟨W.heap.size,1,none⟩=some (.string ⟨#[]⟩)/\W2.cell? ⟨W.heap.size,2,none⟩=some (.int .i64 0)/\W2.cell? ⟨W.heap.size,3,none⟩=some (.int .i64 0)/\W2.cell? ⟨W.heap.size,4,none⟩=some (.int .i64 0)/\W2.cell? ⟨W.heap.size,5,none⟩=some (.int .i64 0) /\
  W2.frozen? ⟨W.heap.size,0,none⟩=false/\W2.frozen? ⟨W.heap.size,1,none⟩=false/\W2.frozen? ⟨W.heap.size,2,none⟩=false/\W2.frozen? ⟨W.heap.size,3,none⟩=false/\W2.frozen? ⟨W.heap.size,4,none⟩=false/\W2.frozen? ⟨W.heap.size,5,none⟩=false):=by
 subst y;have u:=(h.alloc _).below m;have z:=m.size;have D:=h.lts.1;rw [qae] at z;have x:w'.heap[W.heap.size]?=some (.cells #[.int .i64 0,.string ⟨#[]⟩,.int .i64 0,.int .i64 0,.int .i64 0,.int .i64 0] 49 (0,0)):=(m.block _ (by simp)).trans (qab W _);have k:=zav (p:=⟨g,1,none⟩) (zaf x (.cells #[v0,v1,v2,v3,v4,v5] 49)) (by show W.heap.size≠g;omega) (.int .i64 ((i:Int)+1));have l:=zav (p:=⟨g,1,none⟩) (qab w' (.cells #[v0,v1,v2,v3,v4,v5] 49)) (by show w'.heap.size≠g;omega) (.int .i64 ((i:Int)+1));have A:=h.lts.2.1;exact ⟨⟨(u.alloc _).step⟩,⟨k⟩,⟨Fr.setCell (S:=(·=g)) ((((Fr.refl W _).alloc _).then_ (Fr.of_below (S:=fun _=>False) m) (fun _ h=>h.elim)).alloc _) (.inl rfl) _⟩,⟨kab,kab⟩,kab,(u.alloc _).facts.2.1,(u.alloc _).facts.2.2,zab l 0,zab l 1,zab l 2,zab l 3,zab l 4,zab l 5,zab k 0,zab k 1,zab k 2,zab k 3,zab k 4,zab k 5,zac k 0,zac k 1,zac k 2,zac k 3,zac k 4,zac k 5⟩
theorem zgu (W:World) (g T c:Nat) (toks:List Tok) (i:Nat) (t:Tok) (ht:toks[i]?=some t) (k:Int) (h:PSt W g T c toks i) :
  Calls prog 52 #[.pointer (some ⟨g,0,none⟩),.int .i64 k] W fun e W'=>
   (if t.kind=k then e = .returned (.agg #[.int .i64 t.kind,.string t.text,.int .i64 t.num,.int .i64 t.pa,.int .i64 t.pb,.int .i64 t.place])/\PSt W' g T c toks (i+1) else e = .panicked [zho 90 t.place])/\Fr W W' (·=g):=by
 have y:=zq (fun W' (x:PSt W' g T c toks i)=>zcv W' g T c toks i t ht x);have z:=zq (fun W' (x:PSt W' g T c toks i)=>zer W' g T c toks i t ht 90 x);have m:=zq h;have M:=h.many;have L:=zvf ht;clear ht h;have G:g≠W.heap.size:=by have:=m.o.lts.1;omega
 by_cases hk:t.kind=k
 ·subst hk;simp only [if_true];go_enter func52,ntmps52;go_wp2_with (go_at_call 28;refine (y.o _ (m.o.alloc _)).mono ?_;rintro e' w' ⟨rfl,p⟩;obtain ⟨u,D,A,l,J,s1,s2,O,U,X,Y,Z,q5,r0,r1,r2,r3,r4,r5,z0,z1,z2,z3,z4,z5⟩:=of_facts m.o p (Obj.cells #[.int .i64 t.kind,.string t.text,.int .i64 t.num,.int .i64 t.pa,.int .i64 t.pb,.int .i64 t.place] 49) _ _ _ _ _ _ rfl);refine qaf (qau rfl _ _ W.heap.size 49 #[.int .i64 t.kind,.string t.text,.int .i64 t.num,.int .i64 t.pa,.int .i64 t.pb,.int .i64 t.place] (0,0) _ rfl (zhs D.o _ _ _ _ _ _) underlying49 rfl kae) rfl ?_;refine ⟨⟨rfl,?_⟩,?_⟩
  ·exact PSt.far (PSt.far (PSt.far (PSt.far (PSt.far (PSt.far u.o l.o.1 l.o.2 _) l.o.1 l.o.2 _) l.o.1 l.o.2 _) l.o.1 l.o.2 _) l.o.1 l.o.2 _) l.o.1 l.o.2 _
  exact Fr.setCell (Fr.setCell (Fr.setCell (Fr.setCell (Fr.setCell (Fr.setCell A.o (.inr (qad _)) _) (.inr (qad _)) _) (.inr (qad _)) _) (.inr (qad _)) _) (.inr (qad _)) _) (.inr (qad _)) _
 simp only [if_neg hk];go_enter func52,ntmps52;go_wp2_with (first|(go_at_call 28;refine (y.o _ (m.o.alloc _)).mono ?_;rintro e' w' ⟨rfl,p⟩;have u:=zq ((m.o.alloc _).below p))|(go_at_call 51;refine (z.o _ (u.o.alloc _)).mono ?_;rintro e' w2 ⟨rfl,E⟩));exact ⟨rfl,rfl,(((((Fr.refl W _).alloc _).then_ (Fr.of_below (S:=fun _=>False) p) (fun _ h=>h.elim)).alloc _).then_ (Fr.of_below (S:=fun _=>False) E) (fun _ h=>h.elim))⟩
end
section
theorem zqb (W:World) (A:Option Addr) (n c:Nat) (k:n<=c) (l:n<=140737488355328) :
  Calls prog 114 #[.slice A n c] W fun e W'=>e = .returned (.slice A n n)/\W'=W:=by
 go_enter func114,ntmps114;go_wp2;go_ret;exact ⟨rfl,rfl⟩
theorem clip_item (W:World) (A:Option Addr) (n c:Nat) (k:n<=c) (l:n<=140737488355328) :
  Calls prog 30 #[.slice A n c] W fun e W'=>e = .returned (.slice A n n)/\W'=W:=by
 go_enter func30,ntmps30;go_wp2;go_ret;exact ⟨rfl,rfl⟩
theorem clip_prefix (W:World) (A:Option Addr) (n c:Nat) (k:n<=c) (l:n<=140737488355328) :
  Calls prog 200 #[.slice A n c] W fun e W'=>e = .returned (.slice A n n)/\W'=W:=by
 go_enter func200,ntmps200;go_wp2;go_ret;exact ⟨rfl,rfl⟩
theorem clip_span (W:World) (A:Option Addr) (n c:Nat) (k:n<=c) (l:n<=140737488355328) :
  Calls prog 202 #[.slice A n c] W fun e W'=>e = .returned (.slice A n n)/\W'=W:=by
 go_enter func202,ntmps202;go_wp2;go_ret;exact ⟨rfl,rfl⟩
theorem clip_string (W:World) (A:Option Addr) (n c:Nat) (k:n<=c) (l:n<=140737488355328) :
  Calls prog 204 #[.slice A n c] W fun e W'=>e = .returned (.slice A n n)/\W'=W:=by
 go_enter func204,ntmps204;go_wp2;go_ret;exact ⟨rfl,rfl⟩
end
section
theorem zll (l:ByteArray):∀ (k:Nat) (s t:ByteArray),t∈Lib.splitB l 0 k s->t.size<=s.size
 | 0,s,t,h=>by
  rw [Lib.splitB] at h;rw [qbk.1 h];exact qad _
 | k+1,s,t,h=>by
  rw [Lib.splitB] at h;split at h
  ·rw [qbk.1 h];exact qad _
  rcases qcj.1 h with rfl|h
  ·rw [ByteArray.size_extract];omega
  have:=zll l k _ t h;rw [ByteArray.size_extract] at this;omega
def dotS:ByteArray:=⟨#[46]⟩
def dots (s:ByteArray):List ByteArray:=Lib.splitB dotS 0 (Lib.countB s dotS) s
theorem zmf (s:ByteArray):(dots s).length=Lib.countB s dotS+1:=Lib.splitB_all dotS (qad _) 0 _ s rfl
theorem dots_size (s t:ByteArray) (h:t∈dots s):t.size<=s.size:=zll _ _ _ _ h
def zef (t:ByteArray):Int×Bool:=(addr_number.f t 255).getD (0,false)
theorem partN_eq (t:ByteArray) (h:t.size<=281474976710656):addr_number.f t 255=some ((zef t).1,(zef t).2):=by
 unfold zef addr_number.f;rw [if_pos ⟨h,kad⟩];rfl
theorem partN_range (t:ByteArray) (h:(zef t).2=true):0<=(zef t).1/\(zef t).1<256:=by
 unfold zef addr_number.f at h ⊢;split at h
 ·rename_i k;rw [if_pos k];simp only [Option.getD_some] at h ⊢;split at h
  ·simp only [qbj,decide_eq_true_eq] at h;exact ⟨h.1,by show _<256;omega⟩
  ·cases h
  cases h
 cases h
def addr_Parse.f (a0:ByteArray):Option (Int×Int):=
 if a0.size<4294967281 then
  some (match dots a0 with
   | [a,b,c,d]=>if (zef a).2=true/\(zef b).2=true/\(zef c).2=true/\(zef d).2=true then ((zef a).1*16777216+(zef b).1*65536+(zef c).1*256+(zef d).1,0) else (0,30)
   | _=>(0,30))
 else none
theorem split_dots (s:ByteArray) (w:World) (k:Inv w) (h1:s.size<4294967281) :
  Calls prog 159 #[.string s,.string ⟨#[46]⟩] w fun e w'=>e = .returned (.slice (some ⟨w.heap.size,0,none⟩) (dots s).length (dots s).length)/\w'=w.alloc (.cells ((dots s).map Value.string).toArray 9):=by
 obtain ⟨m,l⟩:=k.maxLen;rw [zmf];exact Tryz.strings_Split s dotS m w h1 l (qad _)
theorem parse_not4 (a0:ByteArray) (w:World) (n:Nat) (o:Obj) (hn:((n:Int)!=4)=true)
  (k:Calls prog 159 #[.string a0,.string ⟨#[46]⟩] w fun e w'=>e = .returned (.slice (some ⟨w.heap.size,0,none⟩) n n)/\w'=w.alloc o) :
  Calls prog 127 #[.string a0] w fun e w'=>e = .returned (.tuple #[.int .i64 0,.int .i64 30])/\Below w.heap.size w w':=by
 have l:=zq k;clear k;go_enter func127,ntmps127;go_wp2_with (go_at_call 159;refine l.o.mono ?_;rintro e w1 ⟨rfl,rfl⟩)
 go_ret2
 exact ⟨rfl,((qan _ _).alloc (qad _) _).alloc (by simp) _⟩
def zuh (n:Nat->Int) (k j:Nat):Value := .int .u8 (if j<k then n j else 0)
def arr4 (n:Nat->Int) (k:Nat):Array Value:=#[zuh n k 0,zuh n k 1,zuh n k 2,zuh n k 3]
theorem arr4_set (n:Nat->Int) (k:Nat) (hk:k<4):(arr4 n k).setIfInBounds k (.int .u8 (n k))=arr4 n (k+1):=by
 match k,hk with
 | 0,_=>rfl
 | 1,_=>rfl
 | 2,_=>rfl
 | 3,_=>rfl
theorem arr4_get (n:Nat->Int) (k:Nat) (hk:k<4):(arr4 n k)[k]?=some (.int .u8 0):=by
 match k,hk with
 | 0,_=>rfl
 | 1,_=>rfl
 | 2,_=>rfl
 | 3,_=>rfl
def zns (ok:Nat->Bool):Bool:=ok 0&&(ok 1&&(ok 2&&ok 3))
theorem fourOk_no {ok:Nat->Bool} {k:Nat} (hk:k<4) (h:ok k=false):zns ok=false:=by
 unfold zns
 match k,hk with
 | 0,_=>simp [h]
 | 1,_=>simp [h]
 | 2,_=>simp [h]
 | 3,_=>simp [h]
def ParsePost (w:World) (n:Nat->Int) (ok:Nat->Bool) (e:Ending) (w':World):Prop:=
 e = .returned (if zns ok=true then .tuple #[.int .i64 (n 0*16777216+n 1*65536+n 2*256+n 3),.int .i64 0] else .tuple #[.int .i64 0,.int .i64 30])/\Below w.heap.size w w'
theorem parse_four (a0:ByteArray) (w:World) (Z:Inv w) (t:Nat->ByteArray) (n:Nat->Int) (ok:Nat->Bool)
  (hc:Calls prog 159 #[.string a0,.string ⟨#[46]⟩] w fun e w'=>e = .returned (.slice (some ⟨w.heap.size,0,none⟩) 4 4)/\w'=w.alloc (.cells #[.string (t 0),.string (t 1),.string (t 2),.string (t 3)] 9))
  (hn:∀ k,k<4->addr_number.f (t k) 255=some (n k,ok k)) (hr:∀ k,ok k=true->0<=n k/\n k<256) :
  Calls prog 127 #[.string a0] w (ParsePost w n ok):=by
 have HS:=zq hc;have HN:=zq hn;have l:=zq hr;have O:=zq Z;clear hc hn hr Z;go_enter func127,ntmps127;go_wp2_with (go_at_call 159;refine HS.o.mono ?_;rintro e w1 ⟨rfl,rfl⟩);have D:Below w.heap.size w ((w.alloc (Obj.cells #[Value.string (t 0),Value.string (t 1),Value.string (t 2),Value.string (t 3)] 9)).alloc (Obj.cells #[Value.int IntKind.u8 0,Value.int IntKind.u8 0,Value.int IntKind.u8 0,Value.int IntKind.u8 0] 184)):=((qan _ _).alloc (qad _) _).alloc (by simp) _;have E:=zaf (ziw w (Obj.cells #[Value.string (t 0),Value.string (t 1),Value.string (t 2),Value.string (t 3)] 9)) (Obj.cells #[Value.int IntKind.u8 0,Value.int IntKind.u8 0,Value.int IntKind.u8 0,Value.int IntKind.u8 0] 184);have A:((w.alloc (Obj.cells #[Value.string (t 0),Value.string (t 1),Value.string (t 2),Value.string (t 3)] 9)).alloc (Obj.cells #[Value.int IntKind.u8 0,Value.int IntKind.u8 0,Value.int IntKind.u8 0,Value.int IntKind.u8 0] 184)).heap[w.heap.size+1]?=some (.cells (arr4 n 0) 184 (0,0)):=by
  have hh:=ziw (w.alloc (Obj.cells #[Value.string (t 0),Value.string (t 1),Value.string (t 2),Value.string (t 3)] 9)) (Obj.cells #[Value.int IntKind.u8 0,Value.int IntKind.u8 0,Value.int IntKind.u8 0,Value.int IntKind.u8 0] 184);have hs:(w.alloc (Obj.cells #[Value.string (t 0),Value.string (t 1),Value.string (t 2),Value.string (t 3)] 9)).heap.size=w.heap.size+1:=by simp
  rw [hs] at hh;exact hh
 generalize (w.alloc (Obj.cells #[Value.string (t 0),Value.string (t 1),Value.string (t 2),Value.string (t 3)] 9)).alloc (Obj.cells #[Value.int IntKind.u8 0,Value.int IntKind.u8 0,Value.int IntKind.u8 0,Value.int IntKind.u8 0] 184)=W0 at D E A;have p:=zq D;have X:=zq E;have M:=zq A;clear D E A
 go_loopw [17] (fun i wr=>∃ k:Nat,k<=4/\i = .int .i64 k/\Zq (wr.heap[w.heap.size]?=some (.cells #[.string (t 0),.string (t 1),.string (t 2),.string (t 3)] 9 (0,0)))/\Zq (wr.heap[w.heap.size+1]?=some (.cells (arr4 n k) 184 (0,0)))/\Zq (Below w.heap.size w wr)/\Zq (∀ j,j<k->ok j=true)) (fun i _=>4-(intOf i).toNat)
 case atStart=>exact ⟨0,kab,rfl,X,M,p,⟨fun j hj=>by omega⟩⟩
 case round=>
  obtain ⟨k,hk,rfl,U,u,HB,x⟩:=hrel;clear X M p;by_cases y:k<4
  ·have a8:wr.cell? ⟨w.heap.size,k,none⟩=some (.string (t k)):=by
    rw [zab U.o]
    match k,y with
    | 0,_=>rfl
    | 1,_=>rfl
    | 2,_=>rfl
    | 3,_=>rfl
   have J:=HN.o k y;obtain ⟨b,G⟩:∃ b,ok k=b:=⟨_,rfl⟩;rw [G] at J;have Y:=zq J;have p:=zq G;clear J G;cases b with
   | false=>
    go_wp2_with (go_at_call 128;refine (addr_number.calls (t k) 255 (n k) false _ (O.o.below HB.o) Y.o).mono ?_;rintro e L ⟨rfl,m⟩)
    go_ret2
    exact ⟨by rw [fourOk_no y p.o];rfl,HB.o.trans (m.mono HB.o.size)⟩
   | true=>
    have hr:=l.o k p.o;have aB:=hr.1;have aC:=hr.2;go_wp2_with (go_at_call 128;refine (addr_number.calls (t k) 255 (n k) true _ (O.o.below HB.o) Y.o).mono ?_;rintro e L ⟨rfl,m⟩;have z:=zaq u.o m;have ad:=zaq U.o m;have a7:L.cell? ⟨w.heap.size+1,k,none⟩=some (.int .u8 0):=(zab z k).trans (arr4_get n k y);have aA:=zac z k;have af:=zq z;have a6:=zq ad;clear z ad)
    go_roundw
    case rel=>
     refine ⟨k+1,kab,by go_num,⟨?_⟩,⟨?_⟩,⟨?_⟩,⟨fun j hj=>?_⟩⟩
     ·exact zav a6.o (by simp) _
     ·exact zan af.o k _ (arr4_set n k y)
     ·exact (HB.o.trans (m.mono HB.o.size)).setCell (by simp) _
     rcases Nat.lt_succ_iff_lt_or_eq.1 hj with h|rfl
     ·exact x.o j h
     exact p.o
    case measure=>simp [intOf];omega
  obtain rfl:k=4:=kab;have c0:wr.cell? ⟨w.heap.size+1,0,none⟩=some (.int .u8 (n 0)):=zab u.o 0;have c1:wr.cell? ⟨w.heap.size+1,1,none⟩=some (.int .u8 (n 1)):=zab u.o 1;have c2:wr.cell? ⟨w.heap.size+1,2,none⟩=some (.int .u8 (n 2)):=zab u.o 2;have c3:wr.cell? ⟨w.heap.size+1,3,none⟩=some (.int .u8 (n 3)):=zab u.o 3;have o0:=x.o 0 kab;have o1:=x.o 1 kab;have o2:=x.o 2 kab;have o3:=x.o 3 kab;have HW:=zq (fun w=>word_any (n 0) (n 1) (n 2) (n 3) w (l.o 0 o0).1 (l.o 0 o0).2 (l.o 1 o1).1 (l.o 1 o1).2 (l.o 2 o2).1 (l.o 2 o2).2 (l.o 3 o3).1 (l.o 3 o3).2);have HF:Hid (zns ok=true):=by show _=_;simp [zns,o0,o1,o2,o3]
  clear o0 o1 o2 o3;go_wp2_with (go_at_call 160;refine (HW.o _).mono ?_;rintro e L ⟨rfl,m⟩)
  go_ret2
  exact ⟨by rw [if_pos HF.out];rfl,HB.o.trans (m.mono HB.o.size)⟩
theorem addr_Parse.calls (a0:ByteArray) (r1 r2:Int) (w:World) (p:Inv w) (h:addr_Parse.f a0=some (r1,r2)) :
  Calls prog 127 #[.string a0] w fun e w'=>e = .returned (.tuple #[.int .i64 r1,.int .i64 r2])/\Below w.heap.size w w':=by
 unfold addr_Parse.f at h;split at h
 ·rename_i h1;have h:=qaa h;have m:=split_dots a0 w p h1;have x:=dots_size a0;by_cases l:(dots a0).length=4
  ·rw [l] at m;obtain ⟨a,b,c,d,hd⟩:∃ a b c d,dots a0=[a,b,c,d]:=by
    match u:dots a0,l with
    | [a,b,c,d],_=>exact ⟨a,b,c,d,rfl⟩
   rw [hd] at h m x;let t:Nat->ByteArray:=fun k=>[a,b,c,d].getD k a;refine (parse_four a0 w p t (fun k=>(zef (t k)).1) (fun k=>(zef (t k)).2) m (fun k hk=>partN_eq _ ?_) (fun k hk=>partN_range _ hk)).mono ?_
   ·have A:t k∈[a,b,c,d]:=by
     match k,hk with
     | 0,_=>simp [t]
     | 1,_=>simp [t]
     | 2,_=>simp [t]
     | 3,_=>simp [t]
    have:=x _ A;omega
   rintro e w' ⟨z,y⟩;refine ⟨?_,y⟩;rw [z];simp only [t,zns,List.getD_cons_zero,List.getD_cons_succ,qbj] at h ⊢;split at h
   ·rename_i hk;rw [if_pos hk];simp only [qap] at h;rw [<-h.1,<-h.2]
   rename_i hk;rw [if_neg hk];simp only [qap] at h;rw [<-h.1,<-h.2]
  have u:(match dots a0 with
   | [a,b,c,d]=>if (zef a).2=true/\(zef b).2=true/\(zef c).2=true/\(zef d).2=true then ((zef a).1*16777216+(zef b).1*65536+(zef c).1*256+(zef d).1,(0:Int)) else (0,30)
   | _=>((0:Int),(30:Int)))=(0,30):=by
   split
   ·rename_i hd;rw [hd] at l;exact absurd rfl l
   rfl
  rw [u] at h;simp only [qap] at h;obtain ⟨rfl,rfl⟩:=h;exact parse_not4 a0 w _ _ (by rw [qbc];omega) m
 cases h
end
end Go.Proofs.YtjeekocidaogoaaGreatDoor.Hand
namespace Go.Proofs.YtjeekocidaogoaaGreatDoorW.PrintLast
open Go.Proofs.YtjeekocidaogoaaGreatDoorW.PrintWords (Zq)
section
end
end Go.Proofs.YtjeekocidaogoaaGreatDoorW.PrintLast
namespace Go.Proofs.YtjeekocidaogoaaGreatDoorW.PrintLast
section
end
end Go.Proofs.YtjeekocidaogoaaGreatDoorW.PrintLast
section
namespace Go.Proofs.YtjeekocidaogoaaGreatDoorW.PrintWords
open Go.RowKit Go.Proofs.YtjeekocidaogoaaGreatDoorW.PrintWords
namespace Kd
end Kd
end Go.Proofs.YtjeekocidaogoaaGreatDoorW.PrintWords
end
section
namespace Go.Proofs.YtjeekocidaogoaaGreatDoorW.PrintWords
open Go.RowKit Go.Proofs.YtjeekocidaogoaaGreatDoorW.PrintWords
namespace Kd
end Kd
end Go.Proofs.YtjeekocidaogoaaGreatDoorW.PrintWords
end
namespace Go.Proofs.YtjeekocidaogoaaGreatDoorW.PrintWords
open Go.RowKit Go.Proofs.YtjeekocidaogoaaGreatDoorW.PrintWords
section
section
variable {P:Program} {d:Nat} {xs ys:Array Value} {f:Field} {fs:List Field} {a b:Value} {r s:Bool} {w:World}
theorem zsb (hn:(f.name == "_")=false) (k:(part f.type xs f.offset).run P w = .ok a w) (l:(part f.type ys f.offset).run P w = .ok b w) (m:(Op.equalIn d f.type a b).run P w = .ok r w):(Op.eqFields d xs ys [f]).run P w = .ok r w:=by
 have p:f.name ≠ "_" := by simpa using hn
 simp only [Op.eqFields,if_pos p,Sem.run_bind,k,l,m,Result.andThen_ok];cases r<;>simp
theorem zsc (hn:(f.name == "_")=false) (k:(part f.type xs f.offset).run P w = .ok a w) (l:(part f.type ys f.offset).run P w = .ok b w) (m:(Op.equalIn d f.type a b).run P w = .ok r w) (hr:(Op.eqFields d xs ys fs).run P w = .ok s w):(Op.eqFields d xs ys (f::fs)).run P w = .ok (r&&s) w:=by
 have p:f.name ≠ "_" := by simpa using hn
 rw [Op.eqFields];simp only [if_pos p,Sem.run_bind,k,l,m,Result.andThen_ok];cases r
 ·simp
 simpa using hr
theorem zuy {t:TypeId} {fs:Array Field} (hu:P.underlying t=some (.struct fs)) (hp:P.stoodInHeld t=false) (h:(Op.eqFields d xs ys fs.toList).run P w = .ok r w):(Op.equalIn (d+1) t (.agg xs) (.agg ys)).run P w = .ok r w:=by
 have hf:P.fieldsOf t=fs:=by simp [Program.fieldsOf,hu]
 rw [run_equalIn_struct (P:=P) w d t xs ys (by rw [hf];exact hu) hp,hf];exact h
end
end
end Go.Proofs.YtjeekocidaogoaaGreatDoorW.PrintWords
namespace Go.Proofs.YtjeekocidaogoaaGreatDoorW.PrintWords
section
theorem Reps.one {α:Type} {R:α->List Value->Prop} {ps:List α} {cs:List Value} {p:α} {v:Value} (hp:R p [v]) (h:Reps R 1 ps cs):Reps R 1 (p::ps) (v::cs):=by
 refine ⟨by simp [h.1],fun j q k=>?_⟩;cases j with
 | zero=>
  simp only [qag,qai] at k;subst k;simpa using hp
 | succ j=>
  simp only [qaw] at k;have h1:=h.2 j q k;simpa [Nat.mul_one] using h1
theorem Reps.front {α:Type} {R:α->List Value->Prop} {size:Nat} {ps:List α} {cs c all:List Value} {p:α} (hp:R p c) (l:c.length=size) (h:Reps R size ps cs) (m:c++cs=all):Reps R size (p::ps) all:=by
 subst m;refine ⟨by rw [qal,l,h.1,qbe,Nat.succ_mul,Nat.add_comm],fun j q k=>?_⟩;cases j with
 | zero=>
  simp only [qag,qai] at k;subst k;rw [Nat.zero_mul,List.drop_zero,List.take_append_of_le_length kab,List.take_of_length_le kab];exact hp
 | succ j=>
  simp only [qaw] at k;have h1:=h.2 j q k;rw [Nat.succ_mul,List.drop_append,qaz (by rw [l];exact Nat.le_add_left _ _),List.nil_append,l,Nat.add_sub_cancel];exact h1
theorem Reps.c2 {α:Type} {R:α->List Value->Prop} {ps:List α} {cs:List Value} {p:α} {k l:Value} (hp:R p [k,l]) (h:Reps R 2 ps cs):Reps R 2 (p::ps) (k::l::cs):=Reps.front hp rfl h rfl
theorem Reps.c3 {α:Type} {R:α->List Value->Prop} {ps:List α} {cs:List Value} {p:α} {k l m:Value} (hp:R p [k,l,m]) (h:Reps R 3 ps cs):Reps R 3 (p::ps) (k::l::m::cs):=Reps.front hp rfl h rfl
theorem Reps.c4 {α:Type} {R:α->List Value->Prop} {ps:List α} {cs:List Value} {p:α} {k l m u:Value} (hp:R p [k,l,m,u]) (h:Reps R 4 ps cs):Reps R 4 (p::ps) (k::l::m::u::cs):=Reps.front hp rfl h rfl
theorem Reps.c5 {α:Type} {R:α->List Value->Prop} {ps:List α} {cs:List Value} {p:α} {k l m u x:Value} (hp:R p [k,l,m,u,x]) (h:Reps R 5 ps cs):Reps R 5 (p::ps) (k::l::m::u::x::cs):=Reps.front hp rfl h rfl
theorem Reps.c6 {α:Type} {R:α->List Value->Prop} {ps:List α} {cs:List Value} {p:α} {k l m u x y:Value} (hp:R p [k,l,m,u,x,y]) (h:Reps R 6 ps cs):Reps R 6 (p::ps) (k::l::m::u::x::y::cs):=Reps.front hp rfl h rfl
theorem Reps.c7 {α:Type} {R:α->List Value->Prop} {ps:List α} {cs:List Value} {p:α} {k l m u x y z:Value} (hp:R p [k,l,m,u,x,y,z]) (h:Reps R 7 ps cs):Reps R 7 (p::ps) (k::l::m::u::x::y::z::cs):=Reps.front hp rfl h rfl
theorem Reps.c8 {α:Type} {R:α->List Value->Prop} {ps:List α} {cs:List Value} {p:α} {k l m u x y z A:Value} (hp:R p [k,l,m,u,x,y,z,A]) (h:Reps R 8 ps cs):Reps R 8 (p::ps) (k::l::m::u::x::y::z::A::cs):=Reps.front hp rfl h rfl
theorem Reps.c9 {α:Type} {R:α->List Value->Prop} {ps:List α} {cs:List Value} {p:α} {k l m u x y z A D:Value} (hp:R p [k,l,m,u,x,y,z,A,D]) (h:Reps R 9 ps cs):Reps R 9 (p::ps) (k::l::m::u::x::y::z::A::D::cs):=Reps.front hp rfl h rfl
theorem Reps.c10 {α:Type} {R:α->List Value->Prop} {ps:List α} {cs:List Value} {p:α} {k l m u x y z A D E:Value} (hp:R p [k,l,m,u,x,y,z,A,D,E]) (h:Reps R 10 ps cs):Reps R 10 (p::ps) (k::l::m::u::x::y::z::A::D::E::cs):=Reps.front hp rfl h rfl
end
end Go.Proofs.YtjeekocidaogoaaGreatDoorW.PrintWords
namespace Go.Proofs.YtjeekocidaogoaaGreatDoorW.PrintLast
section
end
end Go.Proofs.YtjeekocidaogoaaGreatDoorW.PrintLast
section
namespace Go.Proofs.YtjeekocidaogoaaGreatDoorW.PrintWords
open Go.RowKit Go.Proofs.YtjeekocidaogoaaGreatDoorW.PrintWords
end Go.Proofs.YtjeekocidaogoaaGreatDoorW.PrintWords
namespace Go.Proofs.YtjeekocidaogoaaGreatDoorW.PrintLast
end Go.Proofs.YtjeekocidaogoaaGreatDoorW.PrintLast
end
namespace Go.Proofs.YtjeekocidaogoaaGreatDoorW.PrintWords
open Go.RowKit Go.Proofs.YtjeekocidaogoaaGreatDoorW.PrintWords
section
end
end Go.Proofs.YtjeekocidaogoaaGreatDoorW.PrintWords
namespace Go.Proofs.YtjeekocidaogoaaGreatDoor.H
open Go.RowKit Go.Proofs.YtjeekocidaogoaaGreatDoor.Hand Go.Proofs.YtjeekocidaogoaaGreatDoorW.PrintWords Go.Proofs.YtjeekocidaogoaaGreatDoorW.PrintLast Go.Proofs.YtjeekocidaogoaaGreatDoorW.PrintMore
section
attribute [local go_sem] zdv zdt zel zek zcz zcy zdu zds
def errW:Option Int->Value
 | none => .nilIface
 | some c => .iface 0 (.int .i64 c)
theorem zap:errW none = .nilIface:=rfl
theorem zao (c:Int):errW (some c) = .iface 0 (.int .i64 c):=rfl
theorem zsk:(prog.info? 5).map (fun i=>(i.zero,i.size,i.bytes))=some (some (.int .u8 0),1,1):=kae
theorem zrx:(prog.info? 49).map (fun i=>(i.zero,i.size,i.bytes))=some (some (.agg #[(.int .i64 0),(.string ⟨#[]⟩),(.int .i64 0),(.int .i64 0),(.int .i64 0),(.int .i64 0)]),6,56):=kae
structure S47 where
 f0:Int
 f1:Int
def z47:S47:=⟨(0:Int),(0:Int)⟩
def k47:Kd S47:=Kd.iso (Kd.pair (Kd.int .i64) (Kd.int .i64)) (fun x:S47=>(x.f0,x.f1))
theorem zrv {w:World} {x:S47} {cs:List Value} (h:k47.K w x cs):cs=[.int .i64 x.f0,.int .i64 x.f1]:=by
 obtain ⟨_,_,rfl,rfl,rfl⟩:=h;exact rfl
theorem k47_mk (w:World) (x:S47)  : k47.K w x [.int .i64 x.f0,.int .i64 x.f1]:=⟨[.int .i64 x.f0],[.int .i64 x.f1],rfl,rfl,rfl⟩
theorem k47_mkM (w:World) (base:Nat) (ok:Nat->Prop) (x:S47)  : k47.M w base ok x [.int .i64 x.f0,.int .i64 x.f1]:=⟨[.int .i64 x.f0],[.int .i64 x.f1],rfl,rfl,rfl⟩
def zee (xs:List S47) (i:Int):S47:=xs.getD i.toNat z47
theorem zqh {w:World} {A:Option Addr} {n:Nat} {xs:List S47} (h:Kd.C k47 w A n xs) (i:Int) (l:0<=i) (h1:i<n):∃ ad , A=some ad/\w.cell? (ad.add (i.toNat*2))=some (.int .i64 (zee xs i).f0)/\w.cell? ⟨(ad.add (i.toNat*2)).block,(ad.add (i.toNat*2)).off+1,none⟩=some (.int .i64 (zee xs i).f1):=by
 obtain ⟨ad,c,e,_,m,p⟩:=Kd.C_get h z47 i l h1;have k:∀ j u,c[j]?=some u->w.cell? (ad.add (i.toNat*2+j))=some u:=p;obtain rfl:=zrv m;exact ⟨ad,e,k 0 _ rfl,by rw [<-zbx _ _ 1 kab];exact k 1 _ rfl⟩
structure S49 where
 f0:Int
 f1:ByteArray
 f2:Int
 f3:S47
 f4:Int
def z49:S49:=⟨(0:Int),(⟨#[]⟩:ByteArray),(0:Int),z47,(0:Int)⟩
def k49:Kd S49:=Kd.iso (Kd.pair (Kd.int .i64) (Kd.pair Kd.string (Kd.pair (Kd.int .i64) (Kd.pair k47 (Kd.int .i64))))) (fun x:S49=>(x.f0,x.f1,x.f2,x.f3,x.f4))
theorem k49_open {w:World} {x:S49} {cs:List Value} (h:k49.K w x cs):cs=[.int .i64 x.f0,.string x.f1,.int .i64 x.f2,.int .i64 x.f3.f0,.int .i64 x.f3.f1,.int .i64 x.f4]:=by
 obtain ⟨_,_,rfl,rfl,⟨_,_,rfl,rfl,⟨_,_,rfl,rfl,⟨_,_,rfl,k,rfl⟩⟩⟩⟩:=h;obtain rfl:=zrv k;exact rfl
theorem zok (w:World) (base:Nat) (ok:Nat->Prop) (x:S49)  : k49.M w base ok x [.int .i64 x.f0,.string x.f1,.int .i64 x.f2,.int .i64 x.f3.f0,.int .i64 x.f3.f1,.int .i64 x.f4]:=⟨[.int .i64 x.f0],[.string x.f1,.int .i64 x.f2,.int .i64 x.f3.f0,.int .i64 x.f3.f1,.int .i64 x.f4],rfl,rfl,⟨[.string x.f1],[.int .i64 x.f2,.int .i64 x.f3.f0,.int .i64 x.f3.f1,.int .i64 x.f4],rfl,rfl,⟨[.int .i64 x.f2],[.int .i64 x.f3.f0,.int .i64 x.f3.f1,.int .i64 x.f4],rfl,rfl,⟨[.int .i64 x.f3.f0,.int .i64 x.f3.f1],[.int .i64 x.f4],rfl,(k47_mkM w base ok x.f3 ),rfl⟩⟩⟩⟩
def zkl (xs:List S49) (i:Int):S49:=xs.getD i.toNat z49
theorem at_T49 {w:World} {A:Option Addr} {n:Nat} {xs:List S49} (h:Kd.C k49 w A n xs) (i:Int) (l:0<=i) (h1:i<n):∃ ad , A=some ad/\w.cell? (ad.add (i.toNat*6))=some (.int .i64 (zkl xs i).f0)/\w.cell? ⟨(ad.add (i.toNat*6)).block,(ad.add (i.toNat*6)).off+1,none⟩=some (.string (zkl xs i).f1)/\w.cell? ⟨(ad.add (i.toNat*6)).block,(ad.add (i.toNat*6)).off+2,none⟩=some (.int .i64 (zkl xs i).f2)/\w.cell? ⟨(ad.add (i.toNat*6)).block,(ad.add (i.toNat*6)).off+3,none⟩=some (.int .i64 (zkl xs i).f3.f0)/\w.cell? ⟨(ad.add (i.toNat*6)).block,(ad.add (i.toNat*6)).off+4,none⟩=some (.int .i64 (zkl xs i).f3.f1)/\w.cell? ⟨(ad.add (i.toNat*6)).block,(ad.add (i.toNat*6)).off+5,none⟩=some (.int .i64 (zkl xs i).f4):=by
 obtain ⟨ad,c,e,_,m,p⟩:=Kd.C_get h z49 i l h1;have k:∀ j u,c[j]?=some u->w.cell? (ad.add (i.toNat*6+j))=some u:=p;obtain rfl:=k49_open m;exact ⟨ad,e,k 0 _ rfl,by rw [<-zbx _ _ 1 kab];exact k 1 _ rfl,by rw [<-zbx _ _ 2 kab];exact k 2 _ rfl,by rw [<-zbx _ _ 3 kab];exact k 3 _ rfl,by rw [<-zbx _ _ 4 kab];exact k 4 _ rfl,by rw [<-zbx _ _ 5 kab];exact k 5 _ rfl⟩
structure S68 where
 f0:Int
 f1:Int
def z68:S68:=⟨(0:Int),(0:Int)⟩
def k68:Kd S68:=Kd.iso (Kd.pair (Kd.int .i64) (Kd.int .i64)) (fun x:S68=>(x.f0,x.f1))
theorem k68_open {w:World} {x:S68} {cs:List Value} (h:k68.K w x cs):cs=[.int .i64 x.f0,.int .i64 x.f1]:=by
 obtain ⟨_,_,rfl,rfl,rfl⟩:=h;exact rfl
theorem k68_mk (w:World) (x:S68)  : k68.K w x [.int .i64 x.f0,.int .i64 x.f1]:=⟨[.int .i64 x.f0],[.int .i64 x.f1],rfl,rfl,rfl⟩
def zed (xs:List S68) (i:Int):S68:=xs.getD i.toNat z68
theorem znq {w:World} {A:Option Addr} {n:Nat} {xs:List S68} (h:Kd.C k68 w A n xs) (i:Int) (l:0<=i) (h1:i<n):∃ ad , A=some ad/\w.cell? (ad.add (i.toNat*2))=some (.int .i64 (zed xs i).f0)/\w.cell? ⟨(ad.add (i.toNat*2)).block,(ad.add (i.toNat*2)).off+1,none⟩=some (.int .i64 (zed xs i).f1):=by
 obtain ⟨ad,c,e,_,m,p⟩:=Kd.C_get h z68 i l h1;have k:∀ j u,c[j]?=some u->w.cell? (ad.add (i.toNat*2+j))=some u:=p;obtain rfl:=k68_open m;exact ⟨ad,e,k 0 _ rfl,by rw [<-zbx _ _ 1 kab];exact k 1 _ rfl⟩
structure S60 where
 f0:Int
 f1:ByteArray
 f2:ByteArray
 f3:(List S47)
 f4:(List S68)
 f5:(List ByteArray)
 f6:(List S60)
 f7:Int
def z60:S60:=⟨(0:Int),(⟨#[]⟩:ByteArray),(⟨#[]⟩:ByteArray),([]:List S47),([]:List S68),([]:List ByteArray),([]:List S60),(0:Int)⟩
def F60 (d:Kd S60):Kd S60:=Kd.iso (Kd.pair (Kd.int .i64) (Kd.pair Kd.string (Kd.pair Kd.string (Kd.pair (Kd.slice 47 k47) (Kd.pair (Kd.slice 68 k68) (Kd.pair (Kd.slice 9 Kd.string) (Kd.pair (Kd.slice 60 d) (Kd.int .i64)))))))) (fun x:S60=>(x.f0,x.f1,x.f2,x.f3,x.f4,x.f5,x.f6,x.f7))
theorem zuv:Kd.Mono F60:=Kd.mono_iso _ (Kd.mono_pair (Kd.mono_const _) (Kd.mono_pair (Kd.mono_const _) (Kd.mono_pair (Kd.mono_const _) (Kd.mono_pair (Kd.mono_const _) (Kd.mono_pair (Kd.mono_const _) (Kd.mono_pair (Kd.mono_const _) (Kd.mono_pair (Kd.mono_slice 60 Kd.mono_id) (Kd.mono_const _))))))))
theorem sub60:Kd.Sub F60 [9,47,60,68]:=Kd.sub_iso _ (Kd.sub_pair (Kd.sub_const _ kad) (Kd.sub_pair (Kd.sub_const _ kad) (Kd.sub_pair (Kd.sub_const _ kad) (Kd.sub_pair (Kd.sub_const _ kad) (Kd.sub_pair (Kd.sub_const _ kad) (Kd.sub_pair (Kd.sub_const _ kad) (Kd.sub_pair (Kd.sub_slice 60 kad Kd.sub_id) (Kd.sub_const _ kad))))))))
theorem sz60:∀ n,(Kd.upto F60 8 [9,47,60,68] n).sz=8:=Kd.upto_sz (fun _=>rfl)
def k60:Kd S60:=Kd.fix F60 8 [9,47,60,68] sz60 (Kd.upto_E sub60)
theorem zci {w:World} {x:S60} {cs:List Value} (h:k60.K w x cs):∃ k c3 l c4 A5 c5 A6 c6,cs=[.int .i64 x.f0,.string x.f1,.string x.f2,.slice k x.f3.length c3,.slice l x.f4.length c4,.slice A5 x.f5.length c5,.slice A6 x.f6.length c6,.int .i64 x.f7]/\x.f3.length<=c3/\k47.C w k x.f3.length x.f3/\x.f4.length<=c4/\k68.C w l x.f4.length x.f4/\x.f5.length<=c5/\Kd.string.C w A5 x.f5.length x.f5/\x.f6.length<=c6/\k60.C w A6 x.f6.length x.f6:=by
 obtain ⟨n,h⟩:=h;cases n with
 | zero=>exact h.elim
 | succ n=>
  obtain ⟨_,_,rfl,rfl,⟨_,_,rfl,rfl,⟨_,_,rfl,rfl,⟨_,_,rfl,⟨k,c3,rfl,l3,g3⟩,⟨_,_,rfl,⟨l,c4,rfl,l4,g4⟩,⟨_,_,rfl,⟨A5,c5,rfl,m,g5⟩,⟨_,_,rfl,⟨A6,c6,rfl,p,g6⟩,rfl⟩⟩⟩⟩⟩⟩⟩:=h;exact ⟨k,c3,l,c4,A5,c5,A6,c6,rfl,l3,g3,l4,g4,m,g5,p,Kd.fix_C g6⟩
theorem zji (w:World) (x:S60) {l:Option Addr} {c3:Nat} (l3:x.f3.length<=c3) (g3:k47.C w l x.f3.length x.f3) {k:Option Addr} {c4:Nat} (l4:x.f4.length<=c4) (g4:k68.C w k x.f4.length x.f4) {A5:Option Addr} {c5:Nat} (m:x.f5.length<=c5) (g5:Kd.string.C w A5 x.f5.length x.f5) {A6:Option Addr} {c6:Nat} (p:x.f6.length<=c6) (g6:k60.C w A6 x.f6.length x.f6):k60.K w x [.int .i64 x.f0,.string x.f1,.string x.f2,.slice l x.f3.length c3,.slice k x.f4.length c4,.slice A5 x.f5.length c5,.slice A6 x.f6.length c6,.int .i64 x.f7]:=by
 obtain ⟨n6,u⟩:=Kd.fix_C_back zuv g6;have y:=Kd.upto_C_le zuv sz60 (show n6<=n6 by omega) u;exact ⟨n6+1,⟨[.int .i64 x.f0],[.string x.f1,.string x.f2,.slice l x.f3.length c3,.slice k x.f4.length c4,.slice A5 x.f5.length c5,.slice A6 x.f6.length c6,.int .i64 x.f7],rfl,rfl,⟨[.string x.f1],[.string x.f2,.slice l x.f3.length c3,.slice k x.f4.length c4,.slice A5 x.f5.length c5,.slice A6 x.f6.length c6,.int .i64 x.f7],rfl,rfl,⟨[.string x.f2],[.slice l x.f3.length c3,.slice k x.f4.length c4,.slice A5 x.f5.length c5,.slice A6 x.f6.length c6,.int .i64 x.f7],rfl,rfl,⟨[.slice l x.f3.length c3],[.slice k x.f4.length c4,.slice A5 x.f5.length c5,.slice A6 x.f6.length c6,.int .i64 x.f7],rfl,⟨l,c3,rfl,l3,g3⟩,⟨[.slice k x.f4.length c4],[.slice A5 x.f5.length c5,.slice A6 x.f6.length c6,.int .i64 x.f7],rfl,⟨k,c4,rfl,l4,g4⟩,⟨[.slice A5 x.f5.length c5],[.slice A6 x.f6.length c6,.int .i64 x.f7],rfl,⟨A5,c5,rfl,m,g5⟩,⟨[.slice A6 x.f6.length c6],[.int .i64 x.f7],rfl,⟨A6,c6,rfl,p,y⟩,rfl⟩⟩⟩⟩⟩⟩⟩⟩
def zbf (xs:List S60) (i:Int):S60:=xs.getD i.toNat z60
theorem zkr {w:World} {A:Option Addr} {n:Nat} {xs:List S60} (h:Kd.C k60 w A n xs) (i:Int) (p:0<=i) (h1:i<n):∃ ad l c3 m c4 A5 c5 A6 c6,A=some ad/\w.cell? (ad.add (i.toNat*8))=some (.int .i64 (zbf xs i).f0)/\w.cell? ⟨(ad.add (i.toNat*8)).block,(ad.add (i.toNat*8)).off+1,none⟩=some (.string (zbf xs i).f1)/\w.cell? ⟨(ad.add (i.toNat*8)).block,(ad.add (i.toNat*8)).off+2,none⟩=some (.string (zbf xs i).f2)/\w.cell? ⟨(ad.add (i.toNat*8)).block,(ad.add (i.toNat*8)).off+3,none⟩=some (.slice l (zbf xs i).f3.length c3)/\w.cell? ⟨(ad.add (i.toNat*8)).block,(ad.add (i.toNat*8)).off+4,none⟩=some (.slice m (zbf xs i).f4.length c4)/\w.cell? ⟨(ad.add (i.toNat*8)).block,(ad.add (i.toNat*8)).off+5,none⟩=some (.slice A5 (zbf xs i).f5.length c5)/\w.cell? ⟨(ad.add (i.toNat*8)).block,(ad.add (i.toNat*8)).off+6,none⟩=some (.slice A6 (zbf xs i).f6.length c6)/\w.cell? ⟨(ad.add (i.toNat*8)).block,(ad.add (i.toNat*8)).off+7,none⟩=some (.int .i64 (zbf xs i).f7)/\(zbf xs i).f3.length<=c3/\k47.C w l (zbf xs i).f3.length (zbf xs i).f3/\(zbf xs i).f4.length<=c4/\k68.C w m (zbf xs i).f4.length (zbf xs i).f4/\(zbf xs i).f5.length<=c5/\Kd.string.C w A5 (zbf xs i).f5.length (zbf xs i).f5/\(zbf xs i).f6.length<=c6/\k60.C w A6 (zbf xs i).f6.length (zbf xs i).f6:=by
 obtain ⟨ad,c,e,_,x,y⟩:=Kd.C_get h z60 i p h1;have k:∀ j u,c[j]?=some u->w.cell? (ad.add (i.toNat*8+j))=some u:=y;obtain ⟨l,c3,m,c4,A5,c5,A6,c6,rfl,l3,g3,l4,g4,z,g5,D,g6⟩:=zci x;exact ⟨ad,l,c3,m,c4,A5,c5,A6,c6,e,k 0 _ rfl,by rw [<-zbx _ _ 1 kab];exact k 1 _ rfl,by rw [<-zbx _ _ 2 kab];exact k 2 _ rfl,by rw [<-zbx _ _ 3 kab];exact k 3 _ rfl,by rw [<-zbx _ _ 4 kab];exact k 4 _ rfl,by rw [<-zbx _ _ 5 kab];exact k 5 _ rfl,by rw [<-zbx _ _ 6 kab];exact k 6 _ rfl,by rw [<-zbx _ _ 7 kab];exact k 7 _ rfl,l3,g3,l4,g4,z,g5,D,g6⟩
structure S62 where
 f0:Int
 f1:ByteArray
 f2:S60
 f3:Int
def z62:S62:=⟨(0:Int),(⟨#[]⟩:ByteArray),z60,(0:Int)⟩
def k62:Kd S62:=Kd.iso (Kd.pair (Kd.int .i64) (Kd.pair Kd.string (Kd.pair k60 (Kd.int .i64)))) (fun x:S62=>(x.f0,x.f1,x.f2,x.f3))
theorem zoj {w:World} {x:S62} {cs:List Value} (h:k62.K w x cs):∃ A5 c5 A6 c6 A7 c7 A8 c8,cs=[.int .i64 x.f0,.string x.f1,.int .i64 x.f2.f0,.string x.f2.f1,.string x.f2.f2,.slice A5 x.f2.f3.length c5,.slice A6 x.f2.f4.length c6,.slice A7 x.f2.f5.length c7,.slice A8 x.f2.f6.length c8,.int .i64 x.f2.f7,.int .i64 x.f3]/\x.f2.f3.length<=c5/\k47.C w A5 x.f2.f3.length x.f2.f3/\x.f2.f4.length<=c6/\k68.C w A6 x.f2.f4.length x.f2.f4/\x.f2.f5.length<=c7/\Kd.string.C w A7 x.f2.f5.length x.f2.f5/\x.f2.f6.length<=c8/\k60.C w A8 x.f2.f6.length x.f2.f6:=by
 obtain ⟨_,_,rfl,rfl,⟨_,_,rfl,rfl,⟨_,_,rfl,u,rfl⟩⟩⟩:=h;obtain ⟨A5,c5,A6,c6,A7,c7,A8,c8,rfl,k,g5,l,g6,m,g7,p,g8⟩:=zci u;exact ⟨A5,c5,A6,c6,A7,c7,A8,c8,rfl,k,g5,l,g6,m,g7,p,g8⟩
theorem zru (w:World) (x:S62) {A5:Option Addr} {c5:Nat} (k:x.f2.f3.length<=c5) (g5:k47.C w A5 x.f2.f3.length x.f2.f3) {A6:Option Addr} {c6:Nat} (l:x.f2.f4.length<=c6) (g6:k68.C w A6 x.f2.f4.length x.f2.f4) {A7:Option Addr} {c7:Nat} (m:x.f2.f5.length<=c7) (g7:Kd.string.C w A7 x.f2.f5.length x.f2.f5) {A8:Option Addr} {c8:Nat} (p:x.f2.f6.length<=c8) (g8:k60.C w A8 x.f2.f6.length x.f2.f6):k62.K w x [.int .i64 x.f0,.string x.f1,.int .i64 x.f2.f0,.string x.f2.f1,.string x.f2.f2,.slice A5 x.f2.f3.length c5,.slice A6 x.f2.f4.length c6,.slice A7 x.f2.f5.length c7,.slice A8 x.f2.f6.length c8,.int .i64 x.f2.f7,.int .i64 x.f3]:=⟨[.int .i64 x.f0],[.string x.f1,.int .i64 x.f2.f0,.string x.f2.f1,.string x.f2.f2,.slice A5 x.f2.f3.length c5,.slice A6 x.f2.f4.length c6,.slice A7 x.f2.f5.length c7,.slice A8 x.f2.f6.length c8,.int .i64 x.f2.f7,.int .i64 x.f3],rfl,rfl,⟨[.string x.f1],[.int .i64 x.f2.f0,.string x.f2.f1,.string x.f2.f2,.slice A5 x.f2.f3.length c5,.slice A6 x.f2.f4.length c6,.slice A7 x.f2.f5.length c7,.slice A8 x.f2.f6.length c8,.int .i64 x.f2.f7,.int .i64 x.f3],rfl,rfl,⟨[.int .i64 x.f2.f0,.string x.f2.f1,.string x.f2.f2,.slice A5 x.f2.f3.length c5,.slice A6 x.f2.f4.length c6,.slice A7 x.f2.f5.length c7,.slice A8 x.f2.f6.length c8,.int .i64 x.f2.f7],[.int .i64 x.f3],rfl,(zji w x.f2 k g5 l g6 m g7 p g8),rfl⟩⟩⟩
def zdx (xs:List S62) (i:Int):S62:=xs.getD i.toNat z62
theorem zsg {w:World} {A:Option Addr} {n:Nat} {xs:List S62} (h:Kd.C k62 w A n xs) (i:Int) (l:0<=i) (h1:i<n):∃ ad A5 c5 A6 c6 A7 c7 A8 c8,A=some ad/\w.cell? (ad.add (i.toNat*11))=some (.int .i64 (zdx xs i).f0)/\w.cell? ⟨(ad.add (i.toNat*11)).block,(ad.add (i.toNat*11)).off+1,none⟩=some (.string (zdx xs i).f1)/\w.cell? ⟨(ad.add (i.toNat*11)).block,(ad.add (i.toNat*11)).off+2,none⟩=some (.int .i64 (zdx xs i).f2.f0)/\w.cell? ⟨(ad.add (i.toNat*11)).block,(ad.add (i.toNat*11)).off+3,none⟩=some (.string (zdx xs i).f2.f1)/\w.cell? ⟨(ad.add (i.toNat*11)).block,(ad.add (i.toNat*11)).off+4,none⟩=some (.string (zdx xs i).f2.f2)/\w.cell? ⟨(ad.add (i.toNat*11)).block,(ad.add (i.toNat*11)).off+5,none⟩=some (.slice A5 (zdx xs i).f2.f3.length c5)/\w.cell? ⟨(ad.add (i.toNat*11)).block,(ad.add (i.toNat*11)).off+6,none⟩=some (.slice A6 (zdx xs i).f2.f4.length c6)/\w.cell? ⟨(ad.add (i.toNat*11)).block,(ad.add (i.toNat*11)).off+7,none⟩=some (.slice A7 (zdx xs i).f2.f5.length c7)/\w.cell? ⟨(ad.add (i.toNat*11)).block,(ad.add (i.toNat*11)).off+8,none⟩=some (.slice A8 (zdx xs i).f2.f6.length c8)/\w.cell? ⟨(ad.add (i.toNat*11)).block,(ad.add (i.toNat*11)).off+9,none⟩=some (.int .i64 (zdx xs i).f2.f7)/\w.cell? ⟨(ad.add (i.toNat*11)).block,(ad.add (i.toNat*11)).off+10,none⟩=some (.int .i64 (zdx xs i).f3)/\(zdx xs i).f2.f3.length<=c5/\k47.C w A5 (zdx xs i).f2.f3.length (zdx xs i).f2.f3/\(zdx xs i).f2.f4.length<=c6/\k68.C w A6 (zdx xs i).f2.f4.length (zdx xs i).f2.f4/\(zdx xs i).f2.f5.length<=c7/\Kd.string.C w A7 (zdx xs i).f2.f5.length (zdx xs i).f2.f5/\(zdx xs i).f2.f6.length<=c8/\k60.C w A8 (zdx xs i).f2.f6.length (zdx xs i).f2.f6:=by
 obtain ⟨ad,c,e,_,m,p⟩:=Kd.C_get h z62 i l h1;have k:∀ j u,c[j]?=some u->w.cell? (ad.add (i.toNat*11+j))=some u:=p;obtain ⟨A5,c5,A6,c6,A7,c7,A8,c8,rfl,x,g5,y,g6,z,g7,D,g8⟩:=zoj m;exact ⟨ad,A5,c5,A6,c6,A7,c7,A8,c8,e,k 0 _ rfl,by rw [<-zbx _ _ 1 kab];exact k 1 _ rfl,by rw [<-zbx _ _ 2 kab];exact k 2 _ rfl,by rw [<-zbx _ _ 3 kab];exact k 3 _ rfl,by rw [<-zbx _ _ 4 kab];exact k 4 _ rfl,by rw [<-zbx _ _ 5 kab];exact k 5 _ rfl,by rw [<-zbx _ _ 6 kab];exact k 6 _ rfl,by rw [<-zbx _ _ 7 kab];exact k 7 _ rfl,by rw [<-zbx _ _ 8 kab];exact k 8 _ rfl,by rw [<-zbx _ _ 9 kab];exact k 9 _ rfl,by rw [<-zbx _ _ 10 kab];exact k 10 _ rfl,x,g5,y,g6,z,g7,D,g8⟩
end
section
def zqr (l:List S47):List Value:=l.flatMap fun p=>[.int .i64 p.f0,.int .i64 p.f1]
def zqo (l:List S68):List Value:=l.flatMap fun p=>[.int .i64 p.f0,.int .i64 p.f1]
def zic (l:List ByteArray):List Value:=l.map .string
theorem zhd (l:List ByteArray):(zic l).length=l.length:=qci ..
def Blk (v:Value):List Nat:=v.ownBlock.toList
theorem zqt {v:Value} {g:Nat}:g∈Blk v↔v.ownBlock=some g:=by simp [Blk]
mutual
inductive Tree (W:World) (b:Nat):S60->List Value->List Nat->Prop
 | mk {x:S60} {vp vs vn vk:Value} {cells:List Value} {L:List Nat}
  (hp:Row W b 47 2 vp x.f3.length (zqr x.f3)) (hs:Row W b 68 2 vs x.f4.length (zqo x.f4)) (hn:Row W b 9 1 vn x.f5.length (zic x.f5)) (hk:Row W b 60 8 vk x.f6.length cells)
  (hf:Forest W b x.f6 cells L):Tree W b x [.int .i64 x.f0,.string x.f1,.string x.f2,vp,vs,vn,vk,.int .i64 x.f7] (Blk vp++Blk vs++Blk vn++Blk vk++L)
inductive Forest (W:World) (b:Nat):List S60->List Value->List Nat->Prop
 | nil:Forest W b [] [] []
 | cons {c:S60} {r:List S60} {cs rs:List Value} {L M:List Nat} (ht:Tree W b c cs L) (hr:Forest W b r rs M):Forest W b (c::r) (cs++rs) (L++M)
end
section
variable {W w1:World} {b:Nat}
theorem Tree.lt {c:S60} {cs:List Value} {L:List Nat} (h:Tree W b c cs L):∀ g∈L,b<=g/\g<W.heap.size:=by
 refine Tree.rec (motive_1:=fun _ _ L _=>∀ g∈L,b<=g/\g<W.heap.size) (motive_2:=fun _ _ L _=>∀ g∈L,b<=g/\g<W.heap.size) ?_ ?_ ?_ h
 ·intro _ _ _ _ _ _ _ hp hs hn hk hf k g hg;simp only [qbi,zqt] at hg;rcases hg with (((hg|hg)|hg)|hg)|hg
  ·exact ⟨(hp.blk hg).1,(hp.blk hg).2.1⟩
  ·exact ⟨(hs.blk hg).1,(hs.blk hg).2.1⟩
  ·exact ⟨(hn.blk hg).1,(hn.blk hg).2.1⟩
  ·exact ⟨(hk.blk hg).1,(hk.blk hg).2.1⟩
  exact k g hg
 ·intro g hg;cases hg
 intro _ _ _ _ _ _ _ _ l m g hg;rcases qbi.1 hg with hg|hg
 ·exact l g hg
 exact m g hg
theorem Tree.frame {c:S60} {cs:List Value} {L:List Nat} (h:Tree W b c cs L):(∀ g∈L,w1.heap[g]?=W.heap[g]?)->Tree w1 b c cs L:=by
 refine Tree.rec (motive_1:=fun c cs L _=>(∀ g∈L,w1.heap[g]?=W.heap[g]?)->Tree w1 b c cs L) (motive_2:=fun l cs L _=>(∀ g∈L,w1.heap[g]?=W.heap[g]?)->Forest w1 b l cs L) ?_ ?_ ?_ h
 ·intro _ _ _ _ _ _ _ hp hs hn hk hf k hh;refine .mk (hp.frame fun g hg=>hh g ?_) (hs.frame fun g hg=>hh g ?_) (hn.frame fun g hg=>hh g ?_) (hk.frame fun g hg=>hh g ?_) (k fun g hg=>hh g ?_);all_goals simp only [qbi,zqt]
  ·exact .inl (.inl (.inl (.inl hg)))
  ·exact .inl (.inl (.inl (.inr hg)))
  ·exact .inl (.inl (.inr hg))
  ·exact .inl (.inr hg)
  exact .inr hg
 ·intro _;exact .nil
 intro _ _ _ _ _ _ _ _ m p hh;exact .cons (m fun g hg=>hh g (qbi.2 (.inl hg))) (p fun g hg=>hh g (qbi.2 (.inr hg)))
theorem Forest.lt {l:List S60} {cs:List Value} {L:List Nat} (h:Forest W b l cs L):∀ g∈L,b<=g/\g<W.heap.size:=by
 induction l generalizing cs L with
 | nil=>cases h;intro g hg;cases hg
 | cons c l k=>
  cases h with
  | cons ht hr=>
   intro g hg;rcases qbi.1 hg with hg|hg
   ·exact ht.lt g hg
   exact k hr g hg
theorem Forest.frame {l:List S60} {cs:List Value} {L:List Nat} (h:Forest W b l cs L) (hh:∀ g∈L,w1.heap[g]?=W.heap[g]?):Forest w1 b l cs L:=by
 induction l generalizing cs L with
 | nil=>cases h;exact .nil
 | cons c l k=>
  cases h with
  | cons ht hr=>exact .cons (ht.frame fun g hg=>hh g (qbi.2 (.inl hg))) (k hr fun g hg=>hh g (qbi.2 (.inr hg)))
theorem Tree.open_ {c:S60} {cs:List Value} {L:List Nat} (h:Tree W b c cs L):∃ vp vs vn vk cells M,cs=[.int .i64 c.f0,.string c.f1,.string c.f2,vp,vs,vn,vk,.int .i64 c.f7]/\L=Blk vp++Blk vs++Blk vn++Blk vk++M /\
  Row W b 47 2 vp c.f3.length (zqr c.f3)/\Row W b 68 2 vs c.f4.length (zqo c.f4)/\Row W b 9 1 vn c.f5.length (zic c.f5)/\Row W b 60 8 vk c.f6.length cells/\Forest W b c.f6 cells M:=by
 cases h with
 | mk hp hs hn hk hf=>exact ⟨_,_,_,_,_,_,rfl,rfl,hp,hs,hn,hk,hf⟩
theorem Tree.length {c:S60} {cs:List Value} {L:List Nat} (h:Tree W b c cs L):cs.length=8:=by cases h;rfl
theorem Forest.length {l:List S60} {cs:List Value} {L:List Nat} (h:Forest W b l cs L):cs.length=l.length*8:=by
 induction l generalizing cs L with
 | nil=>cases h;rfl
 | cons c l k=>
  cases h with
  | cons ht hr=>rw [qal,ht.length,k hr,qbe];omega
theorem Forest.snoc {l:List S60} {cs ds:List Value} {L M:List Nat} {c:S60} (h:Forest W b l cs L) (k:Tree W b c ds M):Forest W b (l++[c]) (cs++ds) (L++M):=by
 induction l generalizing cs L with
 | nil=>
  cases h;have:=Forest.cons k .nil;simpa using this
 | cons a l m=>
  cases h with
  | cons ht hr=>
   have:=Forest.cons ht (m hr);simpa [qbl] using this
theorem Forest.at {l:List S60} {cs:List Value} {L:List Nat} (h:Forest W b l cs L) (i:Nat) (hi:i<l.length):∃ ds M,Tree W b l[i] ds M/\(∀ r,r<8->cs[i*8+r]?=ds[r]?)/\∀ g∈M,g∈L:=by
 induction l generalizing cs L i with
 | nil=>exact absurd hi (by simp)
 | cons a l u=>
  cases h with
  | @cons _ _ ds rs M N ht hr=>
   match i with
   | 0=>
    refine ⟨ds,M,ht,fun r k=>?_,fun g hg=>qbi.2 (.inl hg)⟩;rw [Nat.zero_mul,Nat.zero_add,qbg (by rw [ht.length];exact k)]
   | i+1=>
    obtain ⟨es,K,h1,m,p⟩:=u hr i (by simpa using hi);refine ⟨es,K,h1,fun r k=>?_,fun g hg=>qbi.2 (.inr (p g hg))⟩;rw [qbd (by rw [ht.length];omega),ht.length,<-m r k];congr 1;omega
theorem Tree.lower {b':Nat} (k:b'<=b) {c:S60} {cs:List Value} {L:List Nat} (h:Tree W b c cs L):Tree W b' c cs L:=by
 refine Tree.rec (motive_1:=fun c cs L _=>Tree W b' c cs L) (motive_2:=fun l cs L _=>Forest W b' l cs L) ?_ ?_ ?_ h
 ·intro _ _ _ _ _ _ _ hp hs hn hk hf m;exact .mk (hp.lower k) (hs.lower k) (hn.lower k) (hk.lower k) m
 ·exact .nil
 intro _ _ _ _ _ _ _ _ p u;exact .cons p u
end
theorem Row.C {α:Type} {d:Kd α} {W:World} {b ty n c:Nat} {A:Option Addr} {cells:List Value} {xs:List α} (h:Row W b ty d.sz (.slice A n c) n cells) (y:xs.length=n)
  (J:∀ j p,xs[j]?=some p->∃ cs,cs.length=d.sz/\d.K W p cs/\∀ r,r<d.sz->cells[j*d.sz+r]?=cs[r]?):Kd.C d W A n xs:=by
 obtain ⟨A',c',G,O,hg⟩:=h.form;injection G with h1 L M;subst h1;refine ⟨y,?_,fun k=>?_⟩
 ·by_cases k:0<n
  ·obtain ⟨g,cur,_,_,_,_,z,_⟩:=hg k;simp only [maxLen] at z;omega
  omega
 obtain ⟨g,cur,rfl,D,_⟩:=hg k;refine ⟨_,rfl,fun j p hp=>?_⟩;obtain ⟨cs,l,m,hr⟩:=J j p hp;refine ⟨cs,l,m,fun r u hu=>?_⟩;have E:r<d.sz:=by rw [<-l];exact (qav.1 hu).1
 have x:(⟨g,0,none⟩:Addr).add (j*d.sz+r)=⟨g,j*d.sz+r,none⟩:=by unfold Addr.add;split<;>simp_all
 rw [x];exact h.cell D _ u ((hr r E).trans hu)
theorem zod (l:List S47) (j:Nat) (p:S47) (h:l[j]?=some p) (r:Nat) (hr:r<2):(zqr l)[j*2+r]?=[Value.int .i64 p.f0,Value.int .i64 p.f1][r]?:=by
 induction l generalizing j with
 | nil=>simp at h
 | cons a l k=>
  have e:zqr (a::l)=[Value.int .i64 a.f0,Value.int .i64 a.f1]++zqr l:=rfl;rw [e];cases j with
  | zero=>
   have:a=p:=(by simpa using h);subst this;rw [Nat.zero_mul,Nat.zero_add,qbg (by simpa using hr)]
  | succ j=>
   rw [qbd kbl,<-k j (by simpa using h)];congr 1;simp;omega
theorem znx (l:List S68) (j:Nat) (p:S68) (h:l[j]?=some p) (r:Nat) (hr:r<2):(zqo l)[j*2+r]?=[Value.int .i64 p.f0,Value.int .i64 p.f1][r]?:=by
 induction l generalizing j with
 | nil=>simp at h
 | cons a l k=>
  have e:zqo (a::l)=[Value.int .i64 a.f0,Value.int .i64 a.f1]++zqo l:=rfl;rw [e];cases j with
  | zero=>
   have:a=p:=(by simpa using h);subst this;rw [Nat.zero_mul,Nat.zero_add,qbg (by simpa using hr)]
  | succ j=>
   rw [qbd kbl,<-k j (by simpa using h)];congr 1;simp;omega
theorem Tree.K {W:World} {b:Nat} {x:S60} {cs:List Value} {L:List Nat} (h:Tree W b x cs L):k60.K W x cs:=by
 refine Tree.rec (motive_1:=fun x cs _ _=>k60.K W x cs) (motive_2:=fun l cells _ _=>∀ j p,l[j]?=some p->∃ cs,cs.length=8/\k60.K W p cs/\∀ r,r<8->cells[j*8+r]?=cs[r]?) ?_ ?_ ?_ h
 ·intro x vp vs vn vk cells L hp hs hn hk hf A;obtain ⟨Z,cp,rfl,O,_⟩:=hp.form;obtain ⟨As,cs,rfl,U,_⟩:=hs.form;obtain ⟨Y,cn,rfl,J,_⟩:=hn.form;obtain ⟨X,ck,rfl,G,_⟩:=hk.form;refine zji W x O (Row.C (d:=k47) hp rfl fun j p k=>?_) U (Row.C (d:=k68) hs rfl fun j p k=>?_) J (Row.C (d:=Kd.string) hn rfl fun j p k=>?_) G (Row.C (d:=k60) hk rfl A)
  ·exact ⟨_,rfl,k47_mk W p,fun r hr=>zod _ j p k r hr⟩
  ·exact ⟨_,rfl,k68_mk W p,fun r hr=>znx _ j p k r hr⟩
  refine ⟨[.string p],rfl,rfl,fun r hr=>?_⟩;have z:r=0:=by have:r<1:=hr;omega
  subst z;show (zic x.f5)[j*1+0]?=_;rw [Nat.mul_one,Nat.add_zero,zic,List.getElem?_map,k];rfl
 ·intro j p k;simp at k
 intro c r cs rs L M ht hr D E j p k;cases j with
 | zero=>
  have:c=p:=by simpa using k
  subst this;refine ⟨cs,ht.length,D,fun q m=>?_⟩;rw [Nat.zero_mul,Nat.zero_add,qbg (by rw [ht.length];exact m)]
 | succ j=>
  obtain ⟨es,h1,u,y⟩:=E j p (by simpa using k);refine ⟨es,h1,u,fun q m=>?_⟩;rw [qbd (by rw [ht.length];omega),ht.length,<-y q m];congr 1;omega
end
section
inductive PR (α:Type) where
 | ok (a:α) (i:Nat)
 | bad (e p:Int)
def PR.bind {α β:Type} (r:PR α) (f:α->Nat->PR β):PR β:=match r with
 | .ok a i=>f a i
 | .bad e p => .bad e p
abbrev CD:=S60×Nat
def sIn:ByteArray:=⟨#[105,110]⟩
def zju:ByteArray:=⟨#[123]⟩
def zgz:ByteArray:=⟨#[125]⟩
def zet:ByteArray:=⟨#[44]⟩
def zba:ByteArray:=⟨#[45]⟩
def zcn:ByteArray:=⟨#[126]⟩
def zgb:ByteArray:=⟨#[40]⟩
def zhf:ByteArray:=⟨#[41]⟩
def zjc:ByteArray:=⟨#[59]⟩
def sEq:ByteArray:=⟨#[61]⟩
def sOr:ByteArray:=⟨#[111,114]⟩
def sAnd:ByteArray:=⟨#[97,110,100]⟩
def sNot:ByteArray:=⟨#[110,111,116]⟩
def zjt:ByteArray:=⟨#[116,114,117,101]⟩
def zge:ByteArray:=⟨#[102,97,108,115,101]⟩
def zfh:ByteArray:=⟨#[97,100,100,114]⟩
def zfd:ByteArray:=⟨#[112,111,114,116]⟩
def zcm:ByteArray:=⟨#[109,101,116,104,111,100]⟩
def zid:ByteArray:=⟨#[112,97,116,104]⟩
def zei:ByteArray:=⟨#[104,101,97,100,101,114]⟩
def sHas:ByteArray:=⟨#[104,97,115]⟩
def sLet:ByteArray:=⟨#[108,101,116]⟩
def zdf:ByteArray:=⟨#[97,108,108,111,119]⟩
def zeu:ByteArray:=⟨#[100,101,110,121]⟩
def zim:ByteArray:=⟨#[119,104,101,110]⟩
def tok0:Tok:=⟨8,⟨#[]⟩,0,0,0,0⟩
section
variable (toks:List Tok)
def tk (i:Nat):Tok:=toks.getD i tok0
theorem zdp {i:Nat} (h:i<toks.length):toks[i]?=some (tk toks i):=by rw [tk,qat,qao h];rfl
def zdg (s:ByteArray) (i:Nat):PR Unit:=if isT (tk toks i) s=true then .ok () (i+1) else .bad 90 (tk toks i).place
def ofP (k:Int) (i:Nat):PR Tok:=if (tk toks i).kind=k then .ok (tk toks i) (i+1) else .bad 90 (tk toks i).place
def zgh (i:Nat):PR S47:=(ofP toks 5 i).bind fun t j => .ok ⟨t.pa,t.pb⟩ j
def zfi (i:Nat):PR S68:=(ofP toks 4 i).bind fun t j=>if isT (tk toks j) zba=true then (ofP toks 4 (j+1)).bind fun u k => .ok ⟨t.num,u.num⟩ k else .ok ⟨t.num,t.num⟩ j
def zdq (i:Nat):PR ByteArray:=(ofP toks 3 i).bind fun t j => .ok t.text j
def zha {β:Type} (elem:Nat->PR β) (want:Int):Nat->Nat->List β->Option (PR (List β))
 | 0,_,_=>none
 | k+1,i,acc=>
  if acc.length=32/\(tk toks i).kind=want then some (.bad 92 (tk toks i).place)
  else match elem i with
   | .bad e p=>some (.bad e p)
   | .ok b j=>if isT (tk toks j) zet=true then zha elem want k (j+1) (acc++[b]) else some ((zdg toks zgz j).bind fun _ m => .ok (acc++[b]) m)
def zhk {β:Type} (elem:Nat->PR β) (want:Int) (k i:Nat):Option (PR (List β)):=
 match zdg toks sIn i with
 | .bad e p=>some (.bad e p)
 | .ok _ j=>match zdg toks zju j with
  | .bad e p=>some (.bad e p)
  | .ok _ m=>zha toks elem want k m []
def zdh (t:Tok):Bool:=
 if t.kind=2 then true else if t.kind=7 then t.text.toList==zgb.toList
 else if t.kind=1 then [sNot,zjt,zge,zfh,zfd,zcm,zid,zei,sHas].any fun w=>t.text.toList==w.toList else false
def zor (t:Tok) (k i:Nat):Option (PR CD):=
 if t.text.toList=zjt.toList then some (.ok (⟨1,⟨#[]⟩,⟨#[]⟩,[],[],[],[],t.place⟩,1) i)
 else if t.text.toList=zge.toList then some (.ok (⟨2,⟨#[]⟩,⟨#[]⟩,[],[],[],[],t.place⟩,1) i)
 else if t.text.toList=zfh.toList then (zhk toks (zgh toks) 5 k i).map fun r=>r.bind fun l j => .ok (⟨7,⟨#[]⟩,⟨#[]⟩,l,[],[],[],t.place⟩,1) j
 else if t.text.toList=zfd.toList then (zhk toks (zfi toks) 4 k i).map fun r=>r.bind fun l j => .ok (⟨8,⟨#[]⟩,⟨#[]⟩,[],l,[],[],t.place⟩,1) j
 else if t.text.toList=zcm.toList then (zhk toks (zdq toks) 3 k i).map fun r=>r.bind fun l j => .ok (⟨9,⟨#[]⟩,⟨#[]⟩,[],[],l,[],t.place⟩,1) j
 else if t.text.toList=zid.toList then some ((zdg toks zcn i).bind fun _ j=>(ofP toks 6 j).bind fun u m => .ok (⟨10,⟨#[]⟩,u.text,[],[],[],[],t.place⟩,1) m)
 else if t.text.toList=zei.toList then some ((ofP toks 6 i).bind fun n j=>(zdg toks zcn j).bind fun _ m=>(ofP toks 6 m).bind fun u q => .ok (⟨11,n.text,u.text,[],[],[],[],t.place⟩,1) q)
 else if t.text.toList=sHas.toList then some ((ofP toks 6 i).bind fun n j => .ok (⟨12,n.text,⟨#[]⟩,[],[],[],[],t.place⟩,1) j)
 else some (.bad 90 t.place)
def isOp (t:Tok):Bool:=[zjt,zge,zfh,zfd,zcm,zid,zei,sHas].any fun w=>t.text.toList==w.toList
def zkc (x:S60) (d i:Nat):PR CD:=if d+1>16 then .bad 91 x.f7 else .ok (x,d+1) i
def rowL (part:Nat->Option (PR CD)) (kind:Int) (word:ByteArray):Nat->Nat->List S60->Nat->Option (PR CD)
 | 0,_,_,_=>none
 | k+1,i,l,d=>
  if isT (tk toks i) word=true then
   if l.length=32 then some (.bad (if zdh (tk toks (i+1))=true then 92 else 90) (tk toks (i+1)).place)
   else match part (i+1) with
    | none=>none
    | some (.bad e p)=>some (.bad e p)
    | some (.ok c j)=>rowL part kind word k j (l++[c.1]) (max d c.2)
  else match l with
   | [c]=>some (.ok (c,d) i)
   | _=>some (zkc ⟨kind,⟨#[]⟩,⟨#[]⟩,[],[],[],l,(l.head?.map (·.f7)).getD 0⟩ d i)
def rowP (part:Nat->Option (PR CD)) (kind:Int) (word:ByteArray) (k i:Nat):Option (PR CD):=
 match part i with
 | none=>none
 | some (.bad e p)=>some (.bad e p)
 | some (.ok c j)=>rowL toks part kind word k j [c.1] c.2
def zce:Nat->Nat->Nat->Option (PR CD)
 | 0,_,_=>none
 | k+1,0,i=>rowP toks (zce k 1) 6 sOr k i
 | k+1,1,i=>rowP toks (zce k 2) 5 sAnd k i
 | k+1,2,i=>
  if isT (tk toks i) sNot=true then
   match zce k 2 (i+1) with
   | none=>none
   | some (.bad e p)=>some (.bad e p)
   | some (.ok c j)=>some (zkc ⟨4,⟨#[]⟩,⟨#[]⟩,[],[],[],[c.1],(tk toks i).place⟩ c.2 j)
  else zce k 3 i
 | k+1,_+3,i=>
  if isT (tk toks i) zgb=true then
   match zce k 0 (i+1) with
   | none=>none
   | some (.bad e p)=>some (.bad e p)
   | some (.ok c j)=>some ((zdg toks zhf j).bind fun _ m => .ok c m)
  else if (tk toks i).kind=2 then some (.ok (⟨3,(tk toks i).text,⟨#[]⟩,[],[],[],[],(tk toks i).place⟩,1) (i+1))
  else if (tk toks i).kind=1/\isOp (tk toks i)=true then zor toks (tk toks i) k (i+1)
  else some (.bad 90 (tk toks i).place)
end
end
section
theorem dead {P:Program} {w:World} {G:Prop} (h:G) (k:wpAny P .any #[] (fun _ _ _=>True) 0 #[] ⟨#[],[]⟩ w):G:=h
def OneP {β:Type} (enc:β->List Value) (W:World) (b g T c q f ty sz:Nat) (toks:List Tok) (cells:Array Value) (n:Nat) (xs:List Value) (v:Value) (r:PR β) (e:Ending) (W':World):Prop:=
 (match r with
 | .ok y j=>e = .returned (.tuple #[])/\PSt W' g T c toks j/\∃ l,W'.heap[q]?=some (.cells (cells.setIfInBounds f l) 60 (0,0))/\Row W' b ty sz l (n+1) (xs++enc y)
 | .bad k p=>e = .panicked [zho k p])/\Fr W W' (fun k=>k=g\/k=q\/some k=v.ownBlock)
theorem zqs {W w' w1:World} {b g T c q f ty sz i j n:Nat} {toks:List Tok} {cells:Array Value} {xs ys:List Value} {v v1:Value} (hs:PSt W g T c toks i) (u:PSt w' g T c toks j) (hF:Fr W w' (·=g))
  (m:W.heap[q]?=some (.cells cells 60 (0,0))) (x:Row W b ty sz v n xs) (h1:ty≠60) (l:ty≠49) (G:ty≠73)
  (p:w'.grownBy w1 v.ownBlock) (D:Row w1 b ty sz v1 (n+1) (xs++ys)) (Z:v1.cells.size=1) :
  PSt (w1.setCell ⟨q,f,none⟩ v1) g T c toks j/\(∃ E,(w1.setCell ⟨q,f,none⟩ v1).heap[q]?=some (.cells (cells.setIfInBounds f E) 60 (0,0))/\Row (w1.setCell ⟨q,f,none⟩ v1) b ty sz E (n+1) (xs++ys)) /\
  Fr W (w1.setCell ⟨q,f,none⟩ v1) (fun k=>k=g\/k=q\/some k=v.ownBlock):=by
 have z:¬q=g:=fun e=>by
  subst e;have h1:=hs.src;rw [m] at h1;injection h1 with h1;injection h1 with _ l;exact absurd l kad
 obtain ⟨Y,y,_⟩:=hs.tok;have L:T≠q:=fun e=>by
  subst e;rw [m] at y;injection y with h1;injection h1 with _ l;exact absurd l kad
 have U:v.ownBlock≠some g:=x.ne hs.src G;have O:v.ownBlock≠some T:=x.ne y l;have X:v.ownBlock≠some q:=x.ne m h1;have M:=zam m;have A:w1.heap[q]?=some (.cells cells 60 (0,0)):=(p.block q (qce M hF.size) (fun e=>X e.symm)).trans (hF.blk m z);have J:PSt w1 g T c toks j:=u.blk (p.block g u.lts.1 (fun e=>U e.symm)) (p.block T u.lts.2.1 (fun e=>O e.symm));refine ⟨J.far (fun e=>z e.symm) L _,⟨v1,zan A f _ rfl,D.setCell (D.ne A h1) _⟩,?_⟩;refine Fr.setCell ?_ (.inl (.inr (.inl rfl))) _;exact (hF.mono (S':=fun k=>k=g\/k=q\/some k=v.ownBlock) (fun k h => .inl (.inl h))).then_ (Fr.of_grown (S:=fun k=>some k=v.ownBlock) p (fun k h=>h.symm)) (fun k h => .inl (.inr (.inr h)))
theorem addr_one (W:World) (b g T c r q:Nat) (toks:List Tok) (i:Nat) (cells:Array Value) (n:Nat) (xs:List Value) (v:Value) (hi:i<toks.length) (hs:PSt W g T c toks i) (ad:b<=W.heap.size) (hn:n<=1000)
  (hr:W.heap[r]?=some (.cells #[.pointer (some ⟨g,0,none⟩)] 71 (0,0))) (l:W.heap[q]?=some (.cells cells 60 (0,0))) (z:cells[3]?=some v) (y:Row W b 47 2 v n xs) :
  Calls prog 199 #[.pointer (some ⟨q,0,none⟩),.pointer (some ⟨r,0,none⟩)] W (OneP (fun p:S47=>[Value.int .i64 p.f0,Value.int .i64 p.f1]) W b g T c q 3 47 2 toks cells n xs v (zgh toks i)):=by
 have c3:W.cell? ⟨q,3,none⟩=some v:=(zab l 3).trans z;have c0:W.cell? ⟨r,0,none⟩=some (.pointer (some ⟨g,0,none⟩)):=zab hr 0;have m:=zq (fun W' (Y:PSt W' g T c toks i)=>zgu W' g T c toks i _ (zdp toks hi) 5 Y);have G:¬q=g:=fun e=>by
  subst e;have h1:=hs.src;rw [l] at h1;injection h1 with h1;injection h1 with _ D;exact absurd D kad
 have a6:¬r=g:=fun e=>by
  subst e;have h1:=hs.src;rw [hr] at h1;injection h1 with h1;injection h1 with _ D;exact absurd D kad
 have a7:∀ A,v.ownBlock=some A->¬A=g:=fun A af e=>y.ne hs.src kad (by rw [af,e]);have a8:v.ownBlock≠some q:=y.ne l kad;have aD:=tok_f3;by_cases hk:(tk toks i).kind=5
 ·have E:zgh toks i = .ok ⟨(tk toks i).pa,(tk toks i).pb⟩ (i+1):=by unfold zgh ofP;rw [if_pos hk];rfl
  rw [E];simp only [if_pos hk] at m;go_enter func199,ntmps199;go_wp2;go_region_law (first
   | (go_simp;go_at_call 52;refine (m.o _ (by first|exact hs|exact hs.drew)).mono ?_;rintro e' w' ⟨⟨rfl,Z⟩,x⟩;have hF:=x.undrew;clear x;have k3:w'.cell? ⟨q,3,none⟩=some v:=(zab (hF.blk (g:=q) l G) 3).trans z;have aF:∀ o,(w'.alloc o).cell? ⟨q,3,none⟩=some v:=fun o=>(zab (zaf (hF.blk (g:=q) l G) o) 3).trans z;have k0:w'.cell? ⟨r,0,none⟩=some (.pointer (some ⟨g,0,none⟩)):=zab (hF.blk (g:=r) hr a6) 0)
   | (refine zch b (by rfl) (.tmp 3) (.tmp 7) 56 47 (.agg #[.int .i64 0,.int .i64 0]) 2 16 rfl rfl rfl rfl kad v n xs [.int .i64 (tk toks i).pa,.int .i64 (tk toks i).pb] rfl rfl rfl ?aU (y.fr hF a7) (qas ad hF.size) ?aM ?aL ?_;(case aU=>intro u hu;simp at hu;rcases hu with rfl|rfl<;>rfl);(case aM=>simp only [maxLen];omega);(case aL=>omega);intro v1 w1 M J aB aE;have L:w1.heap[q]?=some (.cells cells 60 (0,0)):=(J.block q (qce (zam l) hF.size) (fun e=>a8 e.symm)).trans (hF.blk (g:=q) l G);have q3:=(zab L 3).trans z;have aG:=zac L 3;obtain ⟨A1,aA,rfl,aC,-⟩:=M.form))
  all_goals (first|go_end0|(refine qaf (qbb rfl _ _ _) rfl ?_))
  all_goals
   obtain ⟨O,U,X⟩:=zqs (f:=3) hs Z hF l y kad kad kad J M rfl;exact ⟨⟨rfl,O,U⟩,X⟩
 have E:zgh toks i = .bad 90 (tk toks i).place:=by unfold zgh ofP;rw [if_neg hk];rfl
 rw [E];simp only [if_neg hk] at m;go_enter func199,ntmps199;go_wp2;go_region_law (go_simp;go_at_call 52;refine (m.o _ (by first|exact hs|exact hs.drew)).mono ?_;rintro e' w' ⟨rfl,x⟩;refine dead (P:=prog) (w:=w') ?hh ?_;(case hh=>exact And.intro rfl (And.intro rfl (x.undrew.mono (fun k h => .inl (.inl h))))));all_goals trivial
theorem method_one (W:World) (b g T c r q:Nat) (toks:List Tok) (i:Nat) (cells:Array Value) (n:Nat) (xs:List Value) (v:Value) (hi:i<toks.length) (hs:PSt W g T c toks i) (ad:b<=W.heap.size) (hn:n<=1000)
  (hr:W.heap[r]?=some (.cells #[.pointer (some ⟨g,0,none⟩)] 71 (0,0))) (l:W.heap[q]?=some (.cells cells 60 (0,0))) (z:cells[5]?=some v) (y:Row W b 9 1 v n xs) :
  Calls prog 203 #[.pointer (some ⟨q,0,none⟩),.pointer (some ⟨r,0,none⟩)] W (OneP (fun p:ByteArray=>[Value.string p]) W b g T c q 5 9 1 toks cells n xs v (zdq toks i)):=by
 have c3:W.cell? ⟨q,5,none⟩=some v:=(zab l 5).trans z;have c0:W.cell? ⟨r,0,none⟩=some (.pointer (some ⟨g,0,none⟩)):=zab hr 0;have m:=zq (fun W' (Y:PSt W' g T c toks i)=>zgu W' g T c toks i _ (zdp toks hi) 3 Y);have G:¬q=g:=fun e=>by
  subst e;have h1:=hs.src;rw [l] at h1;injection h1 with h1;injection h1 with _ D;exact absurd D kad
 have a6:¬r=g:=fun e=>by
  subst e;have h1:=hs.src;rw [hr] at h1;injection h1 with h1;injection h1 with _ D;exact absurd D kad
 have a7:∀ A,v.ownBlock=some A->¬A=g:=fun A af e=>y.ne hs.src kad (by rw [af,e]);have a8:v.ownBlock≠some q:=y.ne l kad;have aD:=zgy;by_cases hk:(tk toks i).kind=3
 ·have E:zdq toks i = .ok (tk toks i).text (i+1):=by unfold zdq ofP;rw [if_pos hk];rfl
  rw [E];simp only [if_pos hk] at m;go_enter func203,ntmps203;go_wp2;go_region_law (first
   | (go_simp;go_at_call 52;refine (m.o _ (by first|exact hs|exact hs.drew)).mono ?_;rintro e' w' ⟨⟨rfl,Z⟩,x⟩;have hF:=x.undrew;clear x;have k3:w'.cell? ⟨q,5,none⟩=some v:=(zab (hF.blk (g:=q) l G) 5).trans z;have aF:∀ o,(w'.alloc o).cell? ⟨q,5,none⟩=some v:=fun o=>(zab (zaf (hF.blk (g:=q) l G) o) 5).trans z;have k0:w'.cell? ⟨r,0,none⟩=some (.pointer (some ⟨g,0,none⟩)):=zab (hF.blk (g:=r) hr a6) 0)
   | (refine zch b (by rfl) (.tmp 3) (.tmp 7) 25 9 (.string ⟨#[]⟩) 1 16 rfl rfl rfl rfl kad v n xs [.string (tk toks i).text] rfl rfl rfl ?aU (y.fr hF a7) (qas ad hF.size) ?aM ?aL ?_;(case aU=>intro u hu;simp at hu;subst hu;rfl);(case aM=>simp only [maxLen];omega);(case aL=>omega);intro v1 w1 M J aB aE;have L:w1.heap[q]?=some (.cells cells 60 (0,0)):=(J.block q (qce (zam l) hF.size) (fun e=>a8 e.symm)).trans (hF.blk (g:=q) l G);have q3:=(zab L 5).trans z;have aG:=zac L 5;obtain ⟨A1,aA,rfl,aC,-⟩:=M.form))
  all_goals (first|go_end0|(refine qaf (qbb rfl _ _ _) rfl ?_))
  all_goals
   obtain ⟨O,U,X⟩:=zqs (f:=5) hs Z hF l y kad kad kad J M rfl;exact ⟨⟨rfl,O,U⟩,X⟩
 have E:zdq toks i = .bad 90 (tk toks i).place:=by unfold zdq ofP;rw [if_neg hk];rfl
 rw [E];simp only [if_neg hk] at m;go_enter func203,ntmps203;go_wp2;go_region_law (go_simp;go_at_call 52;refine (m.o _ (by first|exact hs|exact hs.drew)).mono ?_;rintro e' w' ⟨rfl,x⟩;refine dead (P:=prog) (w:=w') ?hh ?_;(case hh=>exact And.intro rfl (And.intro rfl (x.undrew.mono (fun k h => .inl (.inl h))))));all_goals trivial
end
section
structure By (W:World) (b g T c r q f ty sz:Nat) (toks:List Tok) (cells:Array Value) (n:Nat) (xs:List Value) (v:Value) (j:Nat) (W':World):Prop where
 st:PSt W' g T c toks j
 fr:Fr W W' (·=g)
 ptr:∀ o,(W'.alloc o).cell? ⟨r,0,none⟩=some (.pointer (some ⟨g,0,none⟩))
 ptr0:W'.cell? ⟨r,0,none⟩=some (.pointer (some ⟨g,0,none⟩))
 here:∀ o,(W'.alloc o).cell? ⟨q,f,none⟩=some v
 here0:W'.cell? ⟨q,f,none⟩=some v
 blk:W'.heap[q]?=some (.cells cells 60 (0,0))
 row:Row W' b ty sz v n xs
section
variable {W W1 W':World} {b g T c r q f ty sz n i j:Nat} {toks:List Tok} {cells:Array Value} {xs:List Value} {v:Value}
theorem By.mk0 (hs:PSt W g T c toks i) (hr:W.heap[r]?=some (.cells #[.pointer (some ⟨g,0,none⟩)] 71 (0,0))) (l:W.heap[q]?=some (.cells cells 60 (0,0))) (p:cells[f]?=some v) (m:Row W b ty sz v n xs)
  (hF:Fr W W' (·=g)) (u:PSt W' g T c toks j) (y:ty≠73):By W b g T c r q f ty sz toks cells n xs v j W':=by
 have z:¬q=g:=fun e=>by
  subst e;have h1:=hs.src;rw [l] at h1;injection h1 with h1;injection h1 with _ k;exact absurd k kad
 have A:¬r=g:=fun e=>by
  subst e;have h1:=hs.src;rw [hr] at h1;injection h1 with h1;injection h1 with _ k;exact absurd k kad
 have h1:=hF.blk (g:=r) hr A;have k:=hF.blk (g:=q) l z;exact ⟨u,hF,fun o=>zab (zaf h1 o) 0,zab h1 0,fun o=>(zab (zaf k o) f).trans p,(zab k f).trans p,k,m.fr hF (fun D x e=>m.ne hs.src y (by rw [x,e]))⟩
end
theorem port_one (W:World) (b g T c r q:Nat) (toks:List Tok) (i:Nat) (cells:Array Value) (n:Nat) (xs:List Value) (v:Value) (hi:i<toks.length) (aa:∀ k,k<toks.length->(tk toks k).kind≠8->k+1<toks.length) (hs:PSt W g T c toks i) (af:b<=W.heap.size) (hn:n<=1000)
  (hr:W.heap[r]?=some (.cells #[.pointer (some ⟨g,0,none⟩)] 71 (0,0))) (hq:W.heap[q]?=some (.cells cells 60 (0,0))) (hv:cells[4]?=some v) (a6:Row W b 68 2 v n xs) :
  Calls prog 201 #[.pointer (some ⟨r,0,none⟩),.pointer (some ⟨q,0,none⟩)] W (OneP (fun p:S68=>[Value.int .i64 p.f0,Value.int .i64 p.f1]) W b g T c q 4 68 2 toks cells n xs v (zfi toks i)):=by
 have hE:∀ W',Fr W W' (·=g)->Fr W W' (fun k=>k=g\/k=q\/some k=v.ownBlock):=fun W' h=>h.mono (fun k h => .inl (.inl h));have A:=zq (fun W' j hF x=>By.mk0 (W':=W') (j:=j) (f:=4) hs hr hq hv a6 hF x kad);have B0:=A.o W i (Fr.refl _ _) hs;have p0:=B0.ptr0;have aH:=zrf;have Y:=zq (fun W' j M (z:PSt W' g T c toks j)=>zgu W' g T c toks j _ (zdp toks M) 4 z);have HT:=zq (fun W' j M (z:PSt W' g T c toks j)=>zcp W' g T c toks j _ (zdp toks M) zba z);have HE:=zq hE;have aG:=zq (Fr.refl W (·=g));clear hE;have fin:∀ (W1 w1:World) (j:Nat) (v1:Value) (y:S68),By W b g T c r q 4 68 2 toks cells n xs v j W1->W1.grownBy w1 v.ownBlock->Row w1 b 68 2 v1 (n+1) (xs++[.int .i64 y.f0,.int .i64 y.f1])->v1.cells.size=1 ->
   OneP (fun p:S68=>[Value.int .i64 p.f0,Value.int .i64 p.f1]) W b g T c q 4 68 2 toks cells n xs v (.ok y j) (.returned (.tuple #[])) (w1.setCell ⟨q,4,none⟩ v1):=fun W1 w1 j v1 y l hg J aB=>by
  obtain ⟨e1,e2,e3⟩:=zqs (f:=4) hs l.st l.fr hq a6 kad kad kad hg J aB;exact ⟨⟨rfl,e1,e2⟩,e3⟩
 have ad:=zq fin;clear fin;have HS:=zq hs;have aI:=hi;clear hs hr hq B0;by_cases h1:(tk toks i).kind=4
 ·have M:i+1<toks.length:=aa i hi kab;have E:=zq (fun W' (z:PSt W' g T c toks i)=>Y.o W' i hi z);have O:=zq (fun W' (z:PSt W' g T c toks (i+1))=>HT.o W' (i+1) M z);simp only [if_pos h1] at E;by_cases L:isT (tk toks (i+1)) zba=true
  ·simp only [L,if_true] at O;have hk:i+1+1<toks.length:=aa (i+1) M (zcd L);have Z:=zq (fun W' (z:PSt W' g T c toks (i+1+1))=>Y.o W' (i+1+1) hk z);clear Y HT;by_cases h3:(tk toks (i+1+1)).kind=4
   ·have G:zfi toks i = .ok ⟨(tk toks i).num,(tk toks (i+1+1)).num⟩ (i+1+1+1):=(by unfold zfi ofP;rw [if_pos h1];simp only [PR.bind];rw [if_pos L,if_pos h3]);rw [G];simp only [if_pos h3] at Z;go_enter func201,ntmps201;go_wp2_with (first
     | (go_at_call 52;refine (E.o _ HS.o).mono ?_;rintro e' w' ⟨⟨rfl,x⟩,m⟩;have l:=A.o _ _ m x;have p1:=l.ptr0;have HB:=zq l;clear l x m)
     | (go_at_call 78;refine (O.o _ HB.o.st).mono ?_;rintro e' w2 ⟨rfl,x,m⟩;have l:=A.o _ _ (HB.o.fr.trans m) x;have p2:=l.ptr0;have p3:=l.here0;have p4:=l.here;have aj:=zq l;clear l x m)
     | (go_at_call 52;refine (Z.o _ aj.o.st).mono ?_;rintro e' w3 ⟨⟨rfl,x⟩,m⟩;have l:=A.o _ _ (aj.o.fr.trans m) x;have p5:=l.here0;have p6:=l.here;have D:=zq l;clear l x m)
     | ((with_reducible refine zas (b := .append) (xs:=#[.tmp 14,.tmp 18]) rfl ?_);at_builtin;refine zbi (w0:=W) b rfl (.tmp 14) (.tmp 18) 57 68 (.agg #[.int .i64 0,.int .i64 0]) 2 16 rfl rfl rfl rfl kad v n xs [.int .i64 (tk toks i).num,.int .i64 (tk toks (i+1+1)).num] rfl rfl rfl ?aU D.o.row (qas af D.o.fr.size) ?aM ?aL ?_;(case aU=>intro u hu;simp at hu;rcases hu with rfl|rfl<;>rfl);(case aM=>simp only [maxLen];omega);(case aL=>omega);intro v1 w1 J U aA aD aE;have X:=(U.block q (zam D.o.blk) (fun e=>(D.o.row.ne D.o.blk kad) e.symm)).trans D.o.blk;have q3:=(zab X 4).trans hv;have aF:=zac X 4;obtain ⟨A1,a7,rfl,aC,-⟩:=J.form))
    (all_goals (first|go_end0|(refine qaf (qbb rfl _ _ _) rfl ?_)));all_goals exact ad.o _ _ _ _ ⟨(tk toks i).num,(tk toks (i+1+1)).num⟩ D.o U J rfl
   have G:zfi toks i = .bad 90 (tk toks (i+1+1)).place:=(by unfold zfi ofP;rw [if_pos h1];simp only [PR.bind];rw [if_pos L,if_neg h3]);rw [G];simp only [if_neg h3] at Z;go_enter func201,ntmps201;go_wp2_with (first
    | (go_at_call 52;refine (E.o _ HS.o).mono ?_;rintro e' w' ⟨⟨rfl,x⟩,m⟩;have l:=A.o _ _ m x;have p1:=l.ptr0;have HB:=zq l;clear l x m)
    | (go_at_call 78;refine (O.o _ HB.o.st).mono ?_;rintro e' w2 ⟨rfl,x,m⟩;have l:=A.o _ _ (HB.o.fr.trans m) x;have p2:=l.ptr0;have p3:=l.here0;have p4:=l.here;have aj:=zq l;clear l x m)
    | (go_at_call 52;refine (Z.o _ aj.o.st).mono ?_;rintro e' w3 ⟨rfl,m⟩;have hG:=HE.o _ (aj.o.fr.trans m)))
   exact ⟨rfl,rfl,hG⟩
  have a8:isT (tk toks (i+1)) zba=false:=by simpa using L
  simp only [a8,qbt,if_false] at O;have G:zfi toks i = .ok ⟨(tk toks i).num,(tk toks i).num⟩ (i+1):=by unfold zfi ofP;rw [if_pos h1];simp only [PR.bind];rw [if_neg L]
  rw [G];go_enter func201,ntmps201;go_wp2_with (first
    | (go_at_call 52;refine (E.o _ HS.o).mono ?_;rintro e' w' ⟨⟨rfl,x⟩,m⟩;have l:=A.o _ _ m x;have p1:=l.ptr0;have HB:=zq l;clear l x m)
    | (go_at_call 78;refine (O.o _ HB.o.st).mono ?_;rintro e' w2 ⟨rfl,x,m⟩;have l:=A.o _ _ (HB.o.fr.trans m) x;have p2:=l.ptr0;have p3:=l.here0;have p4:=l.here;have aj:=zq l;clear l x m)
    | ((with_reducible refine zas (b := .append) (xs:=#[.tmp 14,.tmp 18]) rfl ?_);at_builtin;refine zbi (w0:=W) b rfl (.tmp 14) (.tmp 18) 57 68 (.agg #[.int .i64 0,.int .i64 0]) 2 16 rfl rfl rfl rfl kad v n xs [.int .i64 (tk toks i).num,.int .i64 (tk toks i).num] rfl rfl rfl ?aU aj.o.row (qas af aj.o.fr.size) ?aM ?aL ?_;(case aU=>intro u hu;simp at hu;rcases hu with rfl|rfl<;>rfl);(case aM=>simp only [maxLen];omega);(case aL=>omega);intro v1 w1 J U aA aD aE;have X:=(U.block q (zam aj.o.blk) (fun e=>(aj.o.row.ne aj.o.blk kad) e.symm)).trans aj.o.blk;have q3:=(zab X 4).trans hv;have aF:=zac X 4;obtain ⟨A1,a7,rfl,aC,-⟩:=J.form))
  all_goals (first|go_end0|(refine qaf (qbb rfl _ _ _) rfl ?_))
  all_goals exact ad.o _ _ _ _ ⟨(tk toks i).num,(tk toks i).num⟩ aj.o U J rfl
 have G:zfi toks i = .bad 90 (tk toks i).place:=by unfold zfi ofP;rw [if_neg h1];rfl
 rw [G];have E:=zq (fun W' (z:PSt W' g T c toks i)=>Y.o W' i hi z);simp only [if_neg h1] at E;go_enter func201,ntmps201;go_wp2_with (go_at_call 52;refine (E.o _ HS.o).mono ?_;rintro e' w3 ⟨rfl,m⟩;have hG:=HE.o _ m);exact ⟨rfl,rfl,hG⟩
end
section
theorem zda {P:Program} (f:Nat) {xs:Array Value} {W:World} {Q:Ending->World->Prop} (h:Calls P f xs W Q):Calls P f xs W Q:=h
def EndP {α:Type} (r:PR α) (ok:α->Nat->Ending->World->Prop) (B:World->Prop) (e:Ending) (W':World):Prop:=match r with
 | .ok a j=>ok a j e W'
 | .bad k p=>e = .panicked [zho k p]/\B W'
section
variable {β:Type} (toks:List Tok) (elem:Nat->PR β) (want:Int) (fn:Nat) (a1 a2:Value) (g T c:Nat) (I:Nat->List β->World->Prop) (B:World->Prop)
theorem zjz (aL:∀ w,(callFunc fn #[a1,a2]).run prog w = .ok (.enter fn #[a1,a2]) w) (aa:∀ k,k<toks.length->(tk toks k).kind≠8->k+1<toks.length)
  (hI:∀ i acc W,I i acc W->PSt W g T c toks i) (hM:∀ i j acc W W',I i acc W->PSt W' g T c toks j->Fr W W' (·=g)->I j acc W') (hB:∀ i acc W W',I i acc W->Fr W W' (·=g)->B W')
  (aH:∀ i acc W,i<toks.length->acc.length<=32->I i acc W->Calls prog fn #[a1,a2] W (EndP (elem i) (fun y j e W'=>e = .returned (.tuple #[])/\I j (acc++[y]) W') B))
  (aF:∀ i y j,i<toks.length->elem i = .ok y j->j<toks.length/\(tk toks i).kind=want)
  (K i:Nat) (res:PR (List β)) (L:zhk toks elem want K i=some res) (W:World) (hW:I i [] W) (hi:i<toks.length) :
  Calls prog 198 #[.pointer (some ⟨g,0,none⟩),.int .i64 want,.func (.func fn) #[] #[a1,a2]] W (EndP res (fun l j e W'=>e = .returned (.tuple #[])/\I j l W'/\j<toks.length/\l.length<=33) B):=by
 have HW:=zq (fun W' j s E (m:PSt W' g T c toks j)=>zeh W' g T c toks j _ (zdp toks E) s m);have HT:=zq (fun W' j E (m:PSt W' g T c toks j)=>zcp W' g T c toks j _ (zdp toks E) zet m);have HP:=zq (fun W' j E (m:PSt W' g T c toks j)=>zcv W' g T c toks j _ (zdp toks E) m);have HF:=zq (fun W' j E (m:PSt W' g T c toks j)=>zer W' g T c toks j _ (zdp toks E) 92 m);have p:=zq hI;have M:=zq hM;have HB:=zq hB;have HO:=zq aH;have HE:=zq aF;have HN:=zq aa;have HX:=zq hW;have aN:=zpa;clear hI hM hB aH aF aa hW;unfold zhk at L;unfold zdg at L;by_cases h1:isT (tk toks i) sIn=true
 ·have aB:=HN.o i hi (zcd h1);have x:=zq (fun W' m=>HW.o W' i sIn hi m);simp only [if_pos h1] at L x;by_cases h2:isT (tk toks (i+1)) zju=true
  ·have aG:=HN.o _ aB (zcd h2);have a6:=zq (fun W' m=>HW.o W' (i+1) zju aB m);simp only [if_pos h2] at L a6;have U:=zq L;clear L;go_enter func198,ntmps198;go_wp2_with (first
    | (go_at_call 53;refine (x.o _ (p.o _ _ _ HX.o)).mono ?_;rintro X w1 ⟨⟨rfl,a7⟩,Z⟩;have ab:=zq (M.o _ _ _ _ _ HX.o a7 Z);clear a7 Z x)
    | (go_at_call 53;refine (a6.o _ (p.o _ _ _ ab.o)).mono ?_;rintro Y w2 ⟨⟨rfl,G⟩,z⟩;have J:=zq (M.o _ _ _ _ _ ab.o G z);clear G z))
   go_loopg [6] K (fun k n wr=>∃ u:Nat,∃ acc:List β,n = .int .i64 acc.length/\u<toks.length/\acc.length<=32/\Zq (I u acc wr)/\Zq (zha toks elem want k u acc=some res));case atStart=>exact ⟨_,[],rfl,aG,by simp,J,U⟩
   case round=>
    clear U HX ab J h1 h2 aB aG hi;obtain ⟨u,acc,rfl,ad,hl,HX,U⟩:=hrel;have hr:=U.o;cases gk with
    | zero=>exact absurd hr (by simp [zha])
    | succ k=>
    unfold zha at hr;clear U;by_cases hk:acc.length=32/\(tk toks u).kind=want
    ·rw [if_pos hk] at hr;obtain ⟨hA,hk⟩:=hk;have aC:(acc.length:Int)=32:=kab;have hr:=qaa hr;subst hr;go_wp2_with (first
      | (go_at_call 28;refine (HP.o _ u ad (p.o _ _ _ HX.o)).mono ?_;rintro X w1 ⟨rfl,A⟩;have ab:=zq (M.o _ u _ _ _ HX.o ((p.o _ _ _ HX.o).below A) (Fr.of_below A));clear A HX HP)
      | (go_at_call 51;refine (HF.o _ u ad (p.o _ _ _ ab.o)).mono ?_;rintro Y w2 ⟨rfl,A⟩))
     exact ⟨rfl,rfl,HB.o _ _ _ _ ab.o (Fr.of_below A)⟩
    rw [if_neg hk] at hr;cases a8:elem u with
    | bad ke pe=>
     rw [a8] at hr;have hr:=qaa hr;subst hr;have D:=zq (fun W' m=>HO.o u acc W' ad hl m);rw [a8] at D;by_cases hA:acc.length=32
     ·have aM:¬(tk toks u).kind=want:=fun e=>hk ⟨hA,e⟩;have aC:(acc.length:Int)=32:=kab;go_wp2_with (first
       | (go_at_call 28;refine (HP.o _ u ad (p.o _ _ _ HX.o)).mono ?_;rintro X w1 ⟨rfl,A⟩;have ab:=zq (M.o _ u _ _ _ HX.o ((p.o _ _ _ HX.o).below A) (Fr.of_below A));clear A HX HP)
       | ((with_reducible refine zda fn ?_);refine (D.o _ ab.o).mono ?_;rintro Y w2 ⟨rfl,A⟩;clear D))
      exact ⟨rfl,rfl,A⟩
     have aC:¬(acc.length:Int)=32:=kab;go_wp2_with ((with_reducible refine zda fn ?_);refine (D.o _ HX.o).mono ?_;rintro Y w2 ⟨rfl,A⟩);exact ⟨rfl,rfl,A⟩
    | ok y j=>
     rw [a8] at hr;simp only at hr;obtain ⟨E,aK⟩:=HE.o u y j ad a8;have hA:¬acc.length=32:=fun e=>hk ⟨e,aK⟩;have aC:¬(acc.length:Int)=32:=kab;have D:=zq (fun W' m=>HO.o u acc W' ad hl m);have af:=zq (fun W' m=>HT.o W' j E m);rw [a8] at D;by_cases hc:isT (tk toks j) zet=true
     ·rw [if_pos hc] at hr;have aD:=HN.o j E (zcd hc);have U:=zq hr;clear hr;simp only [hc,if_true] at af;go_wp2_with (first
       | ((with_reducible refine zda fn ?_);refine (D.o _ HX.o).mono ?_;rintro X w1 ⟨rfl,O⟩;have ab:=zq O;clear O D HX)
       | (go_at_call 78;refine (af.o _ (p.o _ _ _ ab.o)).mono ?_;rintro Y w2 ⟨rfl,G,z⟩;have J:=zq (M.o _ _ _ _ _ ab.o G z);clear G z))
      go_roundg k
      case measure=>omega
      case rel=>exact ⟨_,_,by simp,aD,kbl,J,U⟩
     rw [if_neg hc] at hr;have hr:=qaa hr;have aJ:isT (tk toks j) zet=false:=(by simpa using hc);simp only [aJ,qbt,if_false] at af;have x:=zq (fun W' m=>HW.o W' j zgz E m);unfold zdg at hr;by_cases hd:isT (tk toks j) zgz=true
     ·rw [if_pos hd] at hr;simp only [if_pos hd] at x;subst hr;have aD:=HN.o j E (zcd hd);go_wp2_with (first
       | ((with_reducible refine zda fn ?_);refine (D.o _ HX.o).mono ?_;rintro X w1 ⟨rfl,O⟩;have ab:=zq O;clear O D HX)
       | (go_at_call 78;refine (af.o _ (p.o _ _ _ ab.o)).mono ?_;rintro Y w2 ⟨rfl,G,z⟩;have J:=zq (M.o _ _ _ _ _ ab.o G z);clear G z)
       | (go_at_call 53;refine (x.o _ (p.o _ _ _ J.o)).mono ?_;rintro e3 w3 ⟨⟨rfl,aE⟩,aA⟩;have aI:=zq (M.o _ _ _ _ _ J.o aE aA);clear aE aA))
      (first|go_end0|(refine qaf (qbb rfl _ _ _) rfl ?_));exact ⟨rfl,aI.o,aD,kbl⟩
     rw [if_neg hd] at hr;simp only [if_neg hd] at x;subst hr;go_wp2_with (first
      | ((with_reducible refine zda fn ?_);refine (D.o _ HX.o).mono ?_;rintro X w1 ⟨rfl,O⟩;have ab:=zq O;clear O D HX)
      | (go_at_call 78;refine (af.o _ (p.o _ _ _ ab.o)).mono ?_;rintro Y w2 ⟨rfl,G,z⟩;have J:=zq (M.o _ _ _ _ _ ab.o G z);clear G z)
      | (go_at_call 53;refine (x.o _ (p.o _ _ _ J.o)).mono ?_;rintro e3 w3 ⟨rfl,aA⟩))
     exact ⟨rfl,rfl,HB.o _ _ _ _ J.o aA⟩
  have a6:=zq (fun W' m=>HW.o W' (i+1) zju aB m);simp only [if_neg h2,qai] at L a6;subst L;go_enter func198,ntmps198;go_wp2_with (first
   | (go_at_call 53;refine (x.o _ (p.o _ _ _ HX.o)).mono ?_;rintro X w1 ⟨⟨rfl,a7⟩,Z⟩;have ab:=zq (M.o _ _ _ _ _ HX.o a7 Z);clear a7 Z x)
   | (go_at_call 53;refine (a6.o _ (p.o _ _ _ ab.o)).mono ?_;rintro Y w2 ⟨rfl,z⟩))
  exact ⟨rfl,rfl,HB.o _ _ _ _ ab.o z⟩
 have x:=zq (fun W' m=>HW.o W' i sIn hi m);simp only [if_neg h1,qai] at L x;subst L;go_enter func198,ntmps198;go_wp2_with (go_at_call 53;refine (x.o _ (p.o _ _ _ HX.o)).mono ?_;rintro X w1 ⟨rfl,Z⟩);exact ⟨rfl,rfl,HB.o _ _ _ _ HX.o Z⟩
end
end
end Go.Proofs.YtjeekocidaogoaaGreatDoor.H
