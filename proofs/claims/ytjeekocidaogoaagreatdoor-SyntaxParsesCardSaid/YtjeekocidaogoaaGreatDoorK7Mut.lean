import Derived.Test.YtjeekocidaogoaaGreatDoorK7Hx9
import Derived.Test.YtjeekocidaogoaaGreatDoorK7Atoms
import Derived.Test.YtjeekocidaogoaaGreatDoorK7Hx5
import Derived.Lib.LazyBuf
import Derived.Defers
import Derived.Recover
set_option linter.unusedVariables false
set_option linter.unusedSimpArgs false
set_option maxRecDepth 100000
set_option maxHeartbeats 8000000
open Go.Proofs.Tryz
namespace Go.Proofs.YtjeekocidaogoaaGreatDoor.H
open Go.RowKit Go.Proofs.YtjeekocidaogoaaGreatDoor.Hand Go.Proofs.YtjeekocidaogoaaGreatDoorW.PrintWords Go.Proofs.YtjeekocidaogoaaGreatDoorW.PrintLast Go.Proofs.YtjeekocidaogoaaGreatDoorW.PrintMore
section
theorem zck {a b:ByteArray} (h:a.toList=b.toList):a=b:=by
 rw [Go.Lib.toList_data,Go.Lib.toList_data] at h;cases a;cases b;simpa using h
theorem zrb.leaf {W:World} {g T c:Nat} {toks:List Tok} {r:PR S60} {e:Ending} {W':World} (h:zrb W g T c toks r e W') (n:∀ x j,r = .ok x j->x.f6=[]):zjq W g T c toks (r.bind fun x j => .ok (x,1) j) e W':=by
 cases r with
 | bad k p=>exact h
 | ok x j=>
  obtain ⟨cs,L,q,d,o,hF,s⟩:=h;exact ⟨cs,L,q,d,o,hF,s,zlb (n x j rfl),by show 1<=16;decide,d.leaf_nodup (n x j rfl)⟩
theorem zhw {α:Type} (r:PR α) (f:α->S60) (hf:∀ a,(f a).f6=[]):∀ x j,(r.bind fun l j=>PR.ok (f l) j) = .ok x j->x.f6=[]:=by
 cases r with
 | bad e p=>intro x j h;cases h
 | ok a i=>intro x j h;cases h;exact hf a
section
variable (g T c:Nat) (toks:List Tok) (aa:∀ k,k<toks.length->(tk toks k).kind≠8->k+1<toks.length)
include aa
theorem or_reads (k:Nat) (h:zix g T c toks 80 (zce toks k 1)):zix g T c toks 54 (zce toks (k+1) 0):=by
 intro W i res hi hs q;have hg:=hs.lts.1;have hT:=hs.lts.2.1;have ae:=zq (hs.alloc (.cells zbe 60));have M:=zq (qab W (.cells zbe 60));unfold zce at q;have u:=zq (fun W' (Z:PSt W' g T c toks i)=>zpi g T c toks aa 80 6 sOr _ (fun w=>by kernel_rfl) h W' k i res hi Z q);have af:∀ (fn:Fn) (first cap:Array Value) (w:World),(Instr.makeFunc fn first cap).run prog w = .ok (.func fn first cap) w:=fun _ _ _ _=>rfl;clear hs q h;cases res with
 | bad ke pe=>
  go_enter func54,ntmps54;go_wp2_with (go_at_call 79;refine (u.o _ ae.o).mono ?_;rintro e1 w1 ⟨rfl,hF⟩);exact ⟨rfl,rfl,((Fr.refl W (·=g)).alloc _).trans hF⟩
 | ok x j=>
  go_enter func54,ntmps54;go_wp2_with (go_at_call 79;refine (u.o _ ae.o).mono ?_;rintro e3 w3 ⟨cs,L,rfl,n,B,hF,D,z,hd,A⟩;obtain ⟨v3,v4,v5,v6,rfl,-,-,-,-,r,n3,c3,s,n4,c4,A5,E,c5,A6,n6,c6,rfl,rfl,rfl,rfl⟩:=zax n;have J:=zq B;have G:=zq hF;have p:=hF.blk M.o kah;obtain ⟨y0,y1,y2,y3,y4,y5,y6,y7,z0,z1,z2,z3,z4,z5,z6,z7⟩:=zaw p;have I:=zq p;rw [qae] at n;have y:=zq n;have d:=zq (And.intro D (And.intro z (And.intro hd A)));clear B hF n D z hd A p);obtain ⟨O,U,X⟩:=zdw hg hT I.o J.o (((Fr.refl W (·=g)).alloc _).trans G.o) (.int .i64 x.1.f0) (.string x.1.f1) (.string x.1.f2) (.slice r n3 c3) (.slice s n4 c4) (.slice A5 E c5) (.slice A6 n6 c6) (.int .i64 x.1.f7);refine qaf (qau rfl _ _ W.heap.size 60 #[.int .i64 x.1.f0,.string x.1.f1,.string x.1.f2,.slice r n3 c3,.slice s n4 c4,.slice A5 E c5,.slice A6 n6 c6,.int .i64 x.1.f7] (0,0) _ rfl O underlying60 rfl kae) rfl ?_;exact ⟨_,_,rfl,(y.o.fr (zbo _ _ _ _ _ _ _ _ _ _) fun Y ad e=>by have:=(y.o.lt Y ad).1;omega).lower kab,U,X,d.o.1,d.o.2.1,d.o.2.2.1,d.o.2.2.2⟩
theorem and_reads (k:Nat) (h:zix g T c toks 115 (zce toks k 2)):zix g T c toks 80 (zce toks (k+1) 1):=by
 intro W i res hi hs q;have hg:=hs.lts.1;have hT:=hs.lts.2.1;have ae:=zq (hs.alloc (.cells zbe 60));have M:=zq (qab W (.cells zbe 60));unfold zce at q;have u:=zq (fun W' (Z:PSt W' g T c toks i)=>zpi g T c toks aa 115 5 sAnd _ (fun w=>by kernel_rfl) h W' k i res hi Z q);have af:∀ (fn:Fn) (first cap:Array Value) (w:World),(Instr.makeFunc fn first cap).run prog w = .ok (.func fn first cap) w:=fun _ _ _ _=>rfl;clear hs q h;cases res with
 | bad ke pe=>
  go_enter func80,ntmps80;go_wp2_with (go_at_call 79;refine (u.o _ ae.o).mono ?_;rintro e1 w1 ⟨rfl,hF⟩);exact ⟨rfl,rfl,((Fr.refl W (·=g)).alloc _).trans hF⟩
 | ok x j=>
  go_enter func80,ntmps80;go_wp2_with (go_at_call 79;refine (u.o _ ae.o).mono ?_;rintro e3 w3 ⟨cs,L,rfl,n,B,hF,D,z,hd,A⟩;obtain ⟨v3,v4,v5,v6,rfl,-,-,-,-,r,n3,c3,s,n4,c4,A5,E,c5,A6,n6,c6,rfl,rfl,rfl,rfl⟩:=zax n;have J:=zq B;have G:=zq hF;have p:=hF.blk M.o kah;obtain ⟨y0,y1,y2,y3,y4,y5,y6,y7,z0,z1,z2,z3,z4,z5,z6,z7⟩:=zaw p;have I:=zq p;rw [qae] at n;have y:=zq n;have d:=zq (And.intro D (And.intro z (And.intro hd A)));clear B hF n D z hd A p);obtain ⟨O,U,X⟩:=zdw hg hT I.o J.o (((Fr.refl W (·=g)).alloc _).trans G.o) (.int .i64 x.1.f0) (.string x.1.f1) (.string x.1.f2) (.slice r n3 c3) (.slice s n4 c4) (.slice A5 E c5) (.slice A6 n6 c6) (.int .i64 x.1.f7);refine qaf (qau rfl _ _ W.heap.size 60 #[.int .i64 x.1.f0,.string x.1.f1,.string x.1.f2,.slice r n3 c3,.slice s n4 c4,.slice A5 E c5,.slice A6 n6 c6,.int .i64 x.1.f7] (0,0) _ rfl O underlying60 rfl kae) rfl ?_;exact ⟨_,_,rfl,(y.o.fr (zbo _ _ _ _ _ _ _ _ _ _) fun Y ad e=>by have:=(y.o.lt Y ad).1;omega).lower kab,U,X,d.o.1,d.o.2.1,d.o.2.2.1,d.o.2.2.2⟩
theorem first_oper (k:Nat) (W:World) (i:Nat) (res:PR CD) (hi:i<toks.length) (hs:PSt W g T c toks i) (hk:(tk toks i).kind=1) (q:isT (tk toks i) zgb=false) (L:isOp (tk toks i)=true) (d:zor toks (tk toks i) k (i+1)=some res) :
  Calls prog 144 #[.pointer (some ⟨g,0,none⟩)] W (zjq W g T c toks res):=by
 have s:=aa i hi kab;unfold zor at d;by_cases h1:(tk toks i).text.toList=zjt.toList
 ·rw [if_pos h1] at d;have d:=qaa d;subst d;refine znk g T c toks aa 175 W i _ hi hs hk q [] _ ⟨by rw [zck h1];rfl,by simp⟩ (fun w x=>by kernel_rfl) fun W' o=>(true_calls W' _).mono ?_;rintro e W2 ⟨rfl,G⟩;exact ⟨_,_,rfl,.mk (Row.nil _ _ _ _) (Row.nil _ _ _ _) (Row.nil _ _ _ _) (Row.nil _ _ _ _) .nil,o.below G,Fr.of_below G,s,zlb rfl,by show 1<=16;decide,by simp [Blk,Value.ownBlock]⟩
 rw [if_neg h1] at d;by_cases y:(tk toks i).text.toList=zge.toList
 ·rw [if_pos y] at d;have d:=qaa d;subst d;refine znk g T c toks aa 176 W i _ hi hs hk q ((zgg g).take 1) ((zgg g).drop 2) ⟨by rw [zck y];rfl,by rw [zck y];exact zks kae⟩ (fun w x=>by kernel_rfl) fun W' o=>(false_calls W' _).mono ?_;rintro e W2 ⟨rfl,G⟩;exact ⟨_,_,rfl,.mk (Row.nil _ _ _ _) (Row.nil _ _ _ _) (Row.nil _ _ _ _) (Row.nil _ _ _ _) .nil,o.below G,Fr.of_below G,s,zlb rfl,by show 1<=16;decide,by simp [Blk,Value.ownBlock]⟩
 rw [if_neg y] at d;by_cases z:(tk toks i).text.toList=zfh.toList
 ·rw [if_pos z] at d;obtain ⟨r,hr,rfl⟩:=qbu.1 d;refine zfx g T c toks aa 177 W i _ hi hs hk q ((zgg g).take 2) ((zgg g).drop 3) ⟨by rw [zck z];rfl,by rw [zck z];exact zks kae⟩ (fun w x=>by kernel_rfl) fun W' o=>(addr_calls W' g T c toks aa k (i+1) s _ o r hr).mono ?_;intro e W2 h;have:=h.leaf (zhw _ _ fun _=>rfl);revert this;cases r<;>exact id
 rw [if_neg z] at d;by_cases A:(tk toks i).text.toList=zfd.toList
 ·rw [if_pos A] at d;obtain ⟨r,hr,rfl⟩:=qbu.1 d;refine zfx g T c toks aa 178 W i _ hi hs hk q ((zgg g).take 3) ((zgg g).drop 4) ⟨by rw [zck A];rfl,by rw [zck A];exact zks kae⟩ (fun w x=>by kernel_rfl) fun W' o=>(port_calls W' g T c toks aa k (i+1) s _ o r hr).mono ?_;intro e W2 h;have:=h.leaf (zhw _ _ fun _=>rfl);revert this;cases r<;>exact id
 rw [if_neg A] at d;by_cases B:(tk toks i).text.toList=zcm.toList
 ·rw [if_pos B] at d;obtain ⟨r,hr,rfl⟩:=qbu.1 d;refine zfx g T c toks aa 179 W i _ hi hs hk q ((zgg g).take 4) ((zgg g).drop 5) ⟨by rw [zck B];rfl,by rw [zck B];exact zks kae⟩ (fun w x=>by kernel_rfl) fun W' o=>(method_calls W' g T c toks aa k (i+1) s _ o r hr).mono ?_;intro e W2 h;have:=h.leaf (zhw _ _ fun _=>rfl);revert this;cases r<;>exact id
 rw [if_neg B] at d;by_cases D:(tk toks i).text.toList=zid.toList
 ·rw [if_pos D] at d;have d:=qaa d;subst d;refine zfx g T c toks aa 180 W i _ hi hs hk q ((zgg g).take 5) ((zgg g).drop 6) ⟨by rw [zck D];rfl,by rw [zck D];exact zks kae⟩ (fun w x=>by kernel_rfl) fun W' o=>(path_calls W' g T c toks aa (i+1) s _ o).mono ?_;intro e W2 h;cases I:zdg toks zcn (i+1) with
  | bad e p=>rw [I] at h;exact h
  | ok _ j=>
   rw [I] at h;have h:=h.leaf (zhw (ofP toks 6 j) (fun u=>⟨10,⟨#[]⟩,u.text,[],[],[],[],(tk toks i).place⟩) fun _=>rfl);revert h;show zjq _ _ _ _ _ ((PR.bind (ofP toks 6 j) _).bind _) _ _->zjq _ _ _ _ _ (PR.bind (ofP toks 6 j) _) _ _;cases ofP toks 6 j<;>exact id
 rw [if_neg D] at d;by_cases E:(tk toks i).text.toList=zei.toList
 ·rw [if_pos E] at d;have d:=qaa d;subst d;refine zfx g T c toks aa 181 W i _ hi hs hk q ((zgg g).take 6) ((zgg g).drop 7) ⟨by rw [zck E];rfl,by rw [zck E];exact zks kae⟩ (fun w x=>by kernel_rfl) fun W' o=>(header_calls W' g T c toks aa (i+1) s _ o).mono ?_;intro e W2 h;cases hn:ofP toks 6 (i+1) with
  | bad e p=>rw [hn] at h;exact h
  | ok n j=>
   rw [hn] at h;dsimp only [PR.bind] at h ⊢;cases I:zdg toks zcn j with
   | bad e p=>rw [I] at h;exact h
   | ok _ m=>
    rw [I] at h;dsimp only [PR.bind] at h ⊢;have h:=h.leaf (zhw (ofP toks 6 m) (fun u=>⟨11,n.text,u.text,[],[],[],[],(tk toks i).place⟩) fun _=>rfl);revert h;cases ofP toks 6 m<;>exact id
 rw [if_neg E] at d;by_cases J:(tk toks i).text.toList=sHas.toList
 ·rw [if_pos J] at d;have d:=qaa d;subst d;refine zfx g T c toks aa 182 W i _ hi hs hk q ((zgg g).take 7) ((zgg g).drop 8) ⟨by rw [zck J];rfl,by rw [zck J];exact zks kae⟩ (fun w x=>by kernel_rfl) fun W' o=>(has_calls W' g T c toks aa (i+1) s _ o).mono ?_;intro e W2 h;have h:=h.leaf (zhw (ofP toks 6 (i+1)) (fun n=>⟨12,n.text,⟨#[]⟩,[],[],[],[],(tk toks i).place⟩) fun _=>rfl);revert h;cases ofP toks 6 (i+1)<;>exact id
 exfalso;unfold isOp at L;simp only [List.any_cons,List.any_nil,Bool.or_false,Bool.or_eq_true,qar] at L;rcases L with h|h|h|h|h|h|h|h
 ·exact h1 h
 ·exact y h
 ·exact z h
 ·exact A h
 ·exact B h
 ·exact D h
 ·exact E h
 exact J h
theorem first_reads (k:Nat) (h:zix g T c toks 54 (zce toks k 0)):zix g T c toks 144 (zce toks (k+1) 3):=by
 intro W i res hi hs d;cases e:isT (tk toks i) zgb with
 | true=>exact first_bracket g T c toks aa k h W i res hi hs e d
 | false=>
  by_cases o:(tk toks i).kind=2
  ·exact first_name g T c toks aa k W i res hi hs o d
  unfold zce at d;rw [if_neg (by rw [e];decide),if_neg o] at d;by_cases h1:(tk toks i).kind=1
  ·cases n:isOp (tk toks i) with
   | true=>
    rw [if_pos ⟨h1,n⟩] at d;exact first_oper g T c toks aa k W i res hi hs h1 e n d
   | false=>
    rw [if_neg (by rw [n];simp)] at d;have d:=qaa d;subst d;exact first_bad1 g T c toks W i hi hs h1 e (op_none g n)
  rw [if_neg (fun h=>h1 h.1)] at d;have d:=qaa d;subst d;exact first_bad2 g T c toks W i hi hs h1 o e
theorem zmm:∀ k,zix g T c toks 54 (zce toks k 0)/\zix g T c toks 80 (zce toks k 1)/\zix g T c toks 115 (zce toks k 2)/\zix g T c toks 144 (zce toks k 3)
 | 0=>⟨fun _ _ _ _ _ h=>by simp [zce] at h,fun _ _ _ _ _ h=>by simp [zce] at h,fun _ _ _ _ _ h=>by simp [zce] at h,fun _ _ _ _ _ h=>by simp [zce] at h⟩
 | k+1=>
  have h:=zmm k
  ⟨or_reads g T c toks aa k h.2.1,and_reads g T c toks aa k h.2.2.1,not_reads g T c toks aa k h.2.2.1 h.2.2.2,first_reads g T c toks aa k h.1⟩
end
end
section
abbrev zfz:Array Value:=#[.int .i64 0,.string ⟨#[]⟩,.int .i64 0,.string ⟨#[]⟩,.string ⟨#[]⟩,.slice none 0 0,.slice none 0 0,.slice none 0 0,.slice none 0 0,.int .i64 0,.int .i64 0]
abbrev zcj (k:Int) (n:ByteArray) (a:Int):Array Value:=#[.int .i64 k,.string n,.int .i64 0,.string ⟨#[]⟩,.string ⟨#[]⟩,.slice none 0 0,.slice none 0 0,.slice none 0 0,.slice none 0 0,.int .i64 0,.int .i64 a]
def zqv:List (ByteArray×Value):=[(sLet,.int .i64 1),(zdf,.int .i64 2),(zeu,.int .i64 3)]
theorem zbd {w:World} {m t:Nat} {v0 v1 v2 v3 v4 v5 e n o v9 d:Value} (h:w.heap[m]?=some (.cells #[v0,v1,v2,v3,v4,v5,e,n,o,v9,d] t (0,0))) :
  (w.cell? ⟨m,0,none⟩=some v0/\w.cell? ⟨m,1,none⟩=some v1/\w.cell? ⟨m,2,none⟩=some v2/\w.cell? ⟨m,3,none⟩=some v3/\w.cell? ⟨m,4,none⟩=some v4/\w.cell? ⟨m,5,none⟩=some v5/\w.cell? ⟨m,6,none⟩=some e/\w.cell? ⟨m,7,none⟩=some n/\w.cell? ⟨m,8,none⟩=some o/\w.cell? ⟨m,9,none⟩=some v9/\w.cell? ⟨m,10,none⟩=some d) /\
  (w.frozen? ⟨m,0,none⟩=false/\w.frozen? ⟨m,1,none⟩=false/\w.frozen? ⟨m,2,none⟩=false/\w.frozen? ⟨m,3,none⟩=false/\w.frozen? ⟨m,4,none⟩=false/\w.frozen? ⟨m,5,none⟩=false/\w.frozen? ⟨m,6,none⟩=false/\w.frozen? ⟨m,7,none⟩=false/\w.frozen? ⟨m,8,none⟩=false/\w.frozen? ⟨m,9,none⟩=false/\w.frozen? ⟨m,10,none⟩=false):=
 ⟨⟨zab h 0,zab h 1,zab h 2,zab h 3,zab h 4,zab h 5,zab h 6,zab h 7,zab h 8,zab h 9,zab h 10⟩,⟨zac h 0,zac h 1,zac h 2,zac h 3,zac h 4,zac h 5,zac h 6,zac h 7,zac h 8,zac h 9,zac h 10⟩⟩
def zvp (W:World) (g T c:Nat) (toks:List Tok) (r:PR S62):Ending->World->Prop:=
 EndP r (fun x j e W'=>∃ cs L,e = .returned (.agg (([Value.int .i64 x.f0,Value.string x.f1]:List Value)++cs++[Value.int .i64 x.f3]).toArray)/\Tree W' W.heap.size x.f2 cs L/\PSt W' g T c toks j/\Fr W W' (·=g)/\j<toks.length/\L.Nodup) (fun W'=>Fr W W' (·=g))
structure ItInv (W:World) (g T c:Nat) (toks:List Tok) (i m:Nat) (cells:Array Value) (W':World):Prop where
 st:PSt W' g T c toks i
 fr:Fr W W' (·=g)
 res:W'.heap[W.heap.size]?=some (.cells zfz 62 (0,0))
 itm:W'.heap[m]?=some (.cells cells 62 (0,0))
 lt:W.heap.size<m
section
variable {W W1 W2:World} {g T c i j m:Nat} {toks:List Tok} {cells:Array Value}
theorem ItInv.move (h:ItInv W g T c toks i m cells W1) (hg:g<W.heap.size) (d:PSt W2 g T c toks j) (hF:Fr W1 W2 (·=g)):ItInv W g T c toks j m cells W2:=
 ⟨d,h.fr.trans hF,hF.blk h.res kab,hF.blk h.itm (by have:=h.lt;omega),h.lt⟩
theorem ItInv.other (h:ItInv W g T c toks i m cells W1) {S:Nat->Prop} (hF:Fr W1 W2 S) (hs:∀ k,S k->W1.heap.size<=k):ItInv W g T c toks i m cells W2:=by
 have d:=h.st.lts;have n:=zam h.res;have o:=zam h.itm;exact ⟨h.st.fr hF (fun e=>by have:=hs _ e;omega) (fun e=>by have:=hs _ e;omega),h.fr.then_ hF (fun k hk => .inr (by have:=hs k hk;omega)),hF.blk h.res (fun e=>by have:=hs _ e;omega),hF.blk h.itm (fun e=>by have:=hs _ e;omega),h.lt⟩
theorem ItInv.step (h:ItInv W g T c toks i m cells W1) (hg:g<W.heap.size):ItInv W g T c toks (i+1) m cells (W1.setCell ⟨g,1,none⟩ (.int .i64 ((i:Int)+1))):=
 h.move hg h.st.step (Fr.setCell (S:=(·=g)) (Fr.refl _ _) (.inl rfl) _)
theorem ItInv.put (h:ItInv W g T c toks i m cells W1) (hg:g<W.heap.size) (e:T<W.heap.size) (k:Nat) (v:Value) {cells':Array Value} (d:cells.setIfInBounds k v=cells'):ItInv W g T c toks i m cells' (W1.setCell ⟨m,k,none⟩ v):=by
 have lt:=h.lt;have hF:Fr W1 (W1.setCell ⟨m,k,none⟩ v) (·=m):=Fr.setCell (S:=(·=m)) (Fr.refl _ _) (.inl rfl) _;subst d;exact ⟨h.st.fr hF kab kab,h.fr.then_ hF (fun k hk => .inr kab),hF.blk h.res kab,zan h.itm k v rfl,lt⟩
theorem ItInv.put8 (h:ItInv W g T c toks i m cells W1) (hg:g<W.heap.size) (d:T<W.heap.size) {k:Int} {n:ByteArray} {a:Int} (y:cells=zcj k n a) (v0 v1 v2 v3 v4 v5 e o:Value) :
  ItInv W g T c toks i m #[.int .i64 k,.string n,v0,v1,v2,v3,v4,v5,e,o,.int .i64 a] ((((((((W1.setCell ⟨m,2,none⟩ v0).setCell ⟨m,3,none⟩ v1).setCell ⟨m,4,none⟩ v2).setCell ⟨m,5,none⟩ v3).setCell ⟨m,6,none⟩ v4).setCell ⟨m,7,none⟩ v5).setCell ⟨m,8,none⟩ e).setCell ⟨m,9,none⟩ o):=by
 subst y;have p:ItInv W g T c toks i m #[.int .i64 k,.string n,v0,.string ⟨#[]⟩,.string ⟨#[]⟩,.slice none 0 0,.slice none 0 0,.slice none 0 0,.slice none 0 0,.int .i64 0,.int .i64 a] _:=h.put hg d 2 v0 rfl;have q:ItInv W g T c toks i m #[.int .i64 k,.string n,v0,v1,.string ⟨#[]⟩,.slice none 0 0,.slice none 0 0,.slice none 0 0,.slice none 0 0,.int .i64 0,.int .i64 a] _:=p.put hg d 3 v1 rfl;have r:ItInv W g T c toks i m #[.int .i64 k,.string n,v0,v1,v2,.slice none 0 0,.slice none 0 0,.slice none 0 0,.slice none 0 0,.int .i64 0,.int .i64 a] _:=q.put hg d 4 v2 rfl;have s:ItInv W g T c toks i m #[.int .i64 k,.string n,v0,v1,v2,v3,.slice none 0 0,.slice none 0 0,.slice none 0 0,.int .i64 0,.int .i64 a] _:=r.put hg d 5 v3 rfl;have u:ItInv W g T c toks i m #[.int .i64 k,.string n,v0,v1,v2,v3,v4,.slice none 0 0,.slice none 0 0,.int .i64 0,.int .i64 a] _:=s.put hg d 6 v4 rfl;have w:ItInv W g T c toks i m #[.int .i64 k,.string n,v0,v1,v2,v3,v4,v5,.slice none 0 0,.int .i64 0,.int .i64 a] _:=u.put hg d 7 v5 rfl;have x:ItInv W g T c toks i m #[.int .i64 k,.string n,v0,v1,v2,v3,v4,v5,e,.int .i64 0,.int .i64 a] _:=w.put hg d 8 e rfl;exact x.put hg d 9 o rfl
abbrev zqn (W:World) (m:Nat) (v0 v1 v2 v3 v4 v5 e n o v9 d:Value):World:=
 ((((((((((W.setCell ⟨m,0,none⟩ v0).setCell ⟨m,1,none⟩ v1).setCell ⟨m,2,none⟩ v2).setCell ⟨m,3,none⟩ v3).setCell ⟨m,4,none⟩ v4).setCell ⟨m,5,none⟩ v5).setCell ⟨m,6,none⟩ e).setCell ⟨m,7,none⟩ n).setCell ⟨m,8,none⟩ o).setCell ⟨m,9,none⟩ v9).setCell ⟨m,10,none⟩ d
theorem zil {m t:Nat} {a0 a1 a2 a3 a4 a5 o n e a9 d:Value} (h:W.heap[m]?=some (.cells #[a0,a1,a2,a3,a4,a5,o,n,e,a9,d] t (0,0))) (v0 v1 v2 v3 v4 v5 p q r v9 s:Value) :
  (zqn W m v0 v1 v2 v3 v4 v5 p q r v9 s).heap[m]?=some (.cells #[v0,v1,v2,v3,v4,v5,p,q,r,v9,s] t (0,0)):=by
 have u:_=some (Obj.cells #[v0,a1,a2,a3,a4,a5,o,n,e,a9,d] t (0,0)):=zan h 0 v0 rfl;have w:_=some (Obj.cells #[v0,v1,a2,a3,a4,a5,o,n,e,a9,d] t (0,0)):=zan u 1 v1 rfl;have x:_=some (Obj.cells #[v0,v1,v2,a3,a4,a5,o,n,e,a9,d] t (0,0)):=zan w 2 v2 rfl;have y:_=some (Obj.cells #[v0,v1,v2,v3,a4,a5,o,n,e,a9,d] t (0,0)):=zan x 3 v3 rfl;have z:_=some (Obj.cells #[v0,v1,v2,v3,v4,a5,o,n,e,a9,d] t (0,0)):=zan y 4 v4 rfl;have A:_=some (Obj.cells #[v0,v1,v2,v3,v4,v5,o,n,e,a9,d] t (0,0)):=zan z 5 v5 rfl;have B:_=some (Obj.cells #[v0,v1,v2,v3,v4,v5,p,n,e,a9,d] t (0,0)):=zan A 6 p rfl;have D:_=some (Obj.cells #[v0,v1,v2,v3,v4,v5,p,q,e,a9,d] t (0,0)):=zan B 7 q rfl;have E:_=some (Obj.cells #[v0,v1,v2,v3,v4,v5,p,q,r,a9,d] t (0,0)):=zan D 8 r rfl;have G:_=some (Obj.cells #[v0,v1,v2,v3,v4,v5,p,q,r,v9,d] t (0,0)):=zan E 9 v9 rfl;exact zan G 10 s rfl
theorem zfc (W:World) (m:Nat) (v0 v1 v2 v3 v4 v5 e n o v9 d:Value):Fr W (zqn W m v0 v1 v2 v3 v4 v5 e n o v9 d) (·=m):=by
 have q:=(Fr.refl W (·=m)).setCell (p:=⟨m,0,none⟩) (.inl rfl) v0;have r:=q.setCell (p:=⟨m,1,none⟩) (.inl rfl) v1;have s:=r.setCell (p:=⟨m,2,none⟩) (.inl rfl) v2;have u:=s.setCell (p:=⟨m,3,none⟩) (.inl rfl) v3;have w:=u.setCell (p:=⟨m,4,none⟩) (.inl rfl) v4;have x:=w.setCell (p:=⟨m,5,none⟩) (.inl rfl) v5;have y:=x.setCell (p:=⟨m,6,none⟩) (.inl rfl) e;have z:=y.setCell (p:=⟨m,7,none⟩) (.inl rfl) n;have A:=z.setCell (p:=⟨m,8,none⟩) (.inl rfl) o;have B:=A.setCell (p:=⟨m,9,none⟩) (.inl rfl) v9;exact B.setCell (p:=⟨m,10,none⟩) (.inl rfl) d
end
theorem zrw {W y q z B:World} {g T c i j m:Nat} {toks:List Tok} {cells cells':Array Value} {k:Int} {n:ByteArray} {x:S60} {a:Int} {v0 v1 v2 v3 v4 v5 d o:Value} {L:List Nat} (hg:g<W.heap.size) (hT:T<W.heap.size)
  (A:Tree q y.heap.size x [v0,v1,v2,v3,v4,v5,d,o] L) (hj:i<toks.length) (X:L.Nodup) (Z:W.heap.size<y.heap.size) (ad:m<y.heap.size) (h7:ItInv W g T c toks i m cells q) (s:ItInv W g T c toks j m cells' z)
  (hF:Fr (((((((( q.setCell ⟨m,2,none⟩ v0).setCell ⟨m,3,none⟩ v1).setCell ⟨m,4,none⟩ v2).setCell ⟨m,5,none⟩ v3).setCell ⟨m,6,none⟩ v4).setCell ⟨m,7,none⟩ v5).setCell ⟨m,8,none⟩ d).setCell ⟨m,9,none⟩ o) z (·=g))
  (u:Fr z B (·=W.heap.size)) (Y:j<toks.length) :
  zvp W g T c toks (.ok ⟨k,n,x,a⟩ j) (.returned (.agg #[.int .i64 k,.string n,v0,v1,v2,v3,v4,v5,d,o,.int .i64 a])) B:=by
 have D:=(Fr.refl q (·=m)).setCell (p:=⟨m,2,none⟩) (.inl rfl) v0;have E:=D.setCell (p:=⟨m,3,none⟩) (.inl rfl) v1;have G:=E.setCell (p:=⟨m,4,none⟩) (.inl rfl) v2;have I:=G.setCell (p:=⟨m,5,none⟩) (.inl rfl) v3;have J:=I.setCell (p:=⟨m,6,none⟩) (.inl rfl) v4;have M:=J.setCell (p:=⟨m,7,none⟩) (.inl rfl) v5;have O:=M.setCell (p:=⟨m,8,none⟩) (.inl rfl) d;have U:=O.setCell (p:=⟨m,9,none⟩) (.inl rfl) o;have af:=s.lt;refine ⟨[v0,v1,v2,v3,v4,v5,d,o],L,rfl,(((A.fr U fun r w e=>?_).fr hF fun r w e=>?_).fr u fun r w e=>?_).lower kab,s.st.fr u kab kab,s.fr.then_ u fun k hk => .inr kab,Y,X⟩;all_goals (have:=(A.lt r w).1;omega)
theorem kind_look {W:World} {b:Nat} {t:Tok} (h:MapS W b zqv):∃ z ok,(Instr.lookup 99 (.map (some b)) (.string t.text) true).run prog W = .ok (.tuple #[.int .i64 z,.bool ok]) W/\zfk t=if ok=true then some z else none:=by
 obtain ⟨v,ok,d,o⟩:=MapS.look_any underlying99 underlying9 (P:=prog) (z := .int .i64 0) (W:=W) kae (s:=t.text) h;rcases o with ⟨⟨p,hp,hs,n⟩,rfl⟩|⟨hn,rfl,rfl⟩
 ·simp only [zqv,qcj,List.not_mem_nil,or_false] at hp;rcases hp with rfl|rfl|rfl
  ·exact ⟨1,true,by rw [d,n],by unfold zfk;rw [<-hs];kernel_rfl⟩
  ·exact ⟨2,true,by rw [d,n],by unfold zfk;rw [<-hs];kernel_rfl⟩
  exact ⟨3,true,by rw [d,n],by unfold zfk;rw [<-hs];kernel_rfl⟩
 refine ⟨0,false,d,?_⟩;unfold zfk;rw [if_neg (fun e=>hn _ (List.mem_cons_self ..) (zck e).symm),if_neg (fun e=>hn _ (qch _ (List.mem_cons_self ..)) (zck e).symm),if_neg (fun e=>hn _ (qch _ (qch _ (List.mem_cons_self ..))) (zck e).symm)];rfl
section
variable (g T c:Nat) (toks:List Tok) (aa:∀ k,k<toks.length->(tk toks k).kind≠8->k+1<toks.length)
include aa
theorem item_calls (W:World) (k n i:Nat) (res:PR S62) (hi:i<toks.length) (hn:n<=100) (hs:PSt W g T c toks i) (d:zfr toks k n i=some res) :
  Calls prog 29 #[.pointer (some ⟨g,0,none⟩),.int .i64 n] W (zvp W g T c toks res):=by
 have hg:=hs.lts.1;have O:=hs.lts.2.1;have hm:=hs.many;have bu:=zsn;have br:=zgy;have HP:=zq (fun W' (y:PSt W' g T c toks i)=>zcv W' g T c toks i _ (zdp toks hi) y);have aW:=HP;have aL:=zq (fun W' e (y:PSt W' g T c toks i)=>zer W' g T c toks i _ (zdp toks hi) e y);have ae:=zq (hs.alloc (.cells zfz 62));have aN:=zq (qab W (.cells zfz 62));have aT:=zq ((Fr.refl W (·=g)).alloc (.cells zfz 62));have aX:=zq d;have aB:=zq aa;have bz:=@run_makeMap prog;clear hs d aa;go_enter func29,ntmps29;go_upto_region 3 with (first
  | (go_at_call 28;refine (HP.o _ ae.o).mono ?_;rintro e1 w1 ⟨rfl,aE⟩;have HI:=zq (ItInv.mk ((ae.o.below aE).alloc (.cells (zcj 0 ⟨#[]⟩ (tk toks i).place) 62)) ((aT.o.trans (Fr.of_below aE)).alloc _) (zaf ((Fr.of_below (S:=(·=g)) aE).blk aN.o kah) _) (qab w1 (.cells (zcj 0 ⟨#[]⟩ (tk toks i).place) 62)) (zam ((Fr.of_below (S:=(·=g)) aE).blk aN.o kah)));have aC:=zq (zhj (w1.alloc (.cells (zcj 0 ⟨#[]⟩ (tk toks i).place) 62)));have aH:=zq (qae w1 (.cells (zcj 0 ⟨#[]⟩ (tk toks i).place) 62));have HG:=zq ((Fr.refl (w1.alloc (.cells (zcj 0 ⟨#[]⟩ (tk toks i).place) 62)) (·=w1.heap.size+1)).alloc (.map #[] 0));clear aE HP)
  | (refine zeg rfl _ _ _ rfl underlying99 underlying9 (w1.heap.size+1) _ _ _ rfl (aH.o ▸ aC.o) rfl rfl kae ?_;intro w3 ba aY;have aC:=zq (aH.o.symm ▸ ba);have HG:=zq (HG.o.trans (Fr.of_grown (S:=(·=w1.heap.size+1)) aY (fun k hk=>(qaa hk).symm)));clear ba aY))
 have aG:=zq (ItInv.other HI.o HG.o (fun k hk=>by rw [aH.o];omega));have aC:=zq (show MapS w3 (w1.heap.size+1) zqv from aH.o ▸ aC.o);clear ae aN aT HI HG;go_upto_region 4 with (go_at_call 28;go_loud (refine (aW.o _ aG.o.st).mono ?_;rintro e4 w4 ⟨rfl,aI⟩;have ad:=zq (ItInv.other (ItInv.other aG.o (Fr.of_below (S:=fun _=>False) aI) (fun _ h=>h.elim)) ((Fr.refl w4 (fun _=>False)).alloc (tokO (tk toks i))) (fun _ h=>h.elim));have aV:=zq ((aC.o.blk (aI.block _ aC.o.lt)).alloc (tokO (tk toks i)));have HM:=zq (qab w4 (tokO (tk toks i)));have aU:=zq (show w1.heap.size<w4.heap.size from qce (zam aG.o.itm) aI.size);clear aI aC aG aW));obtain ⟨z,ok,bc,aR⟩:=kind_look (t:=tk toks i) aV.o;clear aV;obtain ⟨q0,q1,q2,q3,q4,q5⟩:=zbk HM.o;have bv:g≠w4.heap.size:=(by have:=ad.o.lt;have:=aU.o;omega);have bw:g≠w1.heap.size:=(by have:=ad.o.lt;omega);have bx:w1.heap.size≠w4.heap.size:=(by have:=aU.o;omega);have bq:W.heap.size≠w1.heap.size:=(by have:=ad.o.lt;omega);have d:=aX.o;clear aX;unfold zfr at d;by_cases hk:(tk toks i).kind=1
 ·rw [if_pos hk,aR] at d;simp only [tokO,hk] at bc ad q0 q1 q2 q3 q4 q5;have aZ:=aB.o i hi kab;clear aR;cases ok with
  | false=>
   have d:=qaa d;subst d;go_wp2_with (go_at_call 51;refine (aL.o _ 90 ad.o.st).mono ?_;rintro e5 w5 ⟨rfl,aF⟩);exact ⟨rfl,rfl,ad.o.fr.trans (Fr.of_below aF)⟩
  | true=>
   by_cases aO:n=100
   ·rw [if_pos rfl] at d;simp only [if_pos aO] at d;have d:=qaa d;subst d;subst aO;go_wp2_with (go_at_call 51;refine (aL.o _ 92 ad.o.st).mono ?_;rintro e5 w5 ⟨rfl,aF⟩);exact ⟨rfl,rfl,ad.o.fr.trans (Fr.of_below aF)⟩
   rw [if_pos rfl] at d;simp only [if_neg aO] at d;have bp:¬(n:Int)=100:=kab;obtain ⟨s0,s1,s2⟩:=ad.o.st.facts;obtain ⟨⟨x0,-⟩,f0,-⟩:=zbd ad.o.itm;have D:=zq (fun W' (y:PSt W' g T c toks (i+1))=>zgu W' g T c toks (i+1) _ (zdp toks aZ) 2 y);have G:=zq ((ad.o.step hg).put hg O 0 (.int .i64 z) (cells':=zcj z ⟨#[]⟩ (tk toks i).place) rfl);unfold ofP at d;by_cases h2:(tk toks (i+1)).kind=2
   ·rw [if_pos h2] at d;simp only [if_pos h2] at D;dsimp only at d;have aJ:=aB.o (i+1) aZ kab;have J:=zq (fun W' j s (y:PSt W' g T c toks j)=>zeh W' g T c toks j _ (zdp toks s) zjc y);by_cases hz:z=1
    ·simp only [if_pos hz] at d;subst hz;unfold zdg at d;have E:=zq (fun W' (y:PSt W' g T c toks (i+1+1))=>zeh W' g T c toks (i+1+1) _ (zdp toks aJ) sEq y);by_cases h3:isT (tk toks (i+1+1)) sEq=true
     ·rw [if_pos h3] at d;simp only [if_pos h3] at E;dsimp only at d;have aQ:=aB.o (i+1+1) aJ (zcd h3);cases hc:zce toks k 0 (i+1+1+1) with
      | none=>rw [hc] at d;cases d
      | some r=>
      rw [hc] at d;have a6:=zq (fun W' y=>(zmm g T c toks aB.o k).1 W' (i+1+1+1) r aQ y hc);clear hc;cases r with
      | bad ke pe=>
       have d:=qaa d;subst d;go_wp2_with (first
        | (go_at_call 52;refine (D.o _ G.o.st).mono ?_;rintro e5 w5 ⟨⟨rfl,A⟩,q⟩;have u:=zq (G.o.move hg A q);obtain ⟨⟨u0,u1,-⟩,-,g1,-⟩:=zbd u.o.itm;have w:=zq (u.o.put hg O 1 (.string (tk toks (i+1)).text) (cells':=zcj 1 (tk toks (i+1)).text (tk toks i).place) rfl);clear A q D)
        | (go_at_call 53;refine (E.o _ w.o.st).mono ?_;rintro e6 X ⟨⟨rfl,I⟩,B⟩;have p:=zq (w.o.move hg I B);clear I B E)
        | (go_at_call 54;refine (a6.o _ p.o.st).mono ?_;rintro e7 w7 ⟨rfl,aP⟩))
       exact ⟨rfl,rfl,p.o.fr.trans aP⟩
      | ok x j=>
       have d:=qaa d;unfold zdg at d;by_cases h4:isT (tk toks j) zjc=true
       ·rw [if_pos h4] at d;subst d;simp only [PR.bind];have J:=zq (fun W' s y=>J.o W' j s y);simp only [if_pos h4] at J;have aM:=zq (fun s=>aB.o j s (zcd h4));go_wp2_with (first
         | (go_at_call 52;refine (D.o _ G.o.st).mono ?_;rintro e5 w5 ⟨⟨rfl,A⟩,q⟩;have u:=zq (G.o.move hg A q);obtain ⟨⟨u0,u1,-⟩,-,g1,-⟩:=zbd u.o.itm;have w:=zq (u.o.put hg O 1 (.string (tk toks (i+1)).text) (cells':=zcj 1 (tk toks (i+1)).text (tk toks i).place) rfl);clear A q D)
         | (go_at_call 53;refine (E.o _ w.o.st).mono ?_;rintro e6 X ⟨⟨rfl,I⟩,B⟩;have p:=zq (w.o.move hg I B);clear I B E)
         | (go_at_call 54;refine (a6.o _ p.o.st).mono ?_;rintro e7 w7 ⟨cs,L,rfl,U,hS,hF,s,hD,hd,a8⟩;obtain ⟨v3,v4,v5,v6,rfl,-,-,-,-,Y,n3,c3,Z,n4,c4,A5,n5,c5,A6,n6,c6,rfl,rfl,rfl,rfl⟩:=zax U;have af:=zq (p.o.move hg hS hF);obtain ⟨⟨k0,k1,k2,k3,k4,k5,k6,k7,k8,k9,aS⟩,l0,l1,l2,l3,l4,l5,l6,l7,l8,l9,l10⟩:=zbd af.o.itm;have a1:=zq (af.o.put8 hg O rfl (.int .i64 x.1.f0) (.string x.1.f1) (.string x.1.f2) (.slice Y n3 c3) (.slice Z n4 c4) (.slice A5 n5 c5) (.slice A6 n6 c6) (.int .i64 x.1.f7));have M:=zq (And.intro U (And.intro s a8));have au:=zq (show W.heap.size<X.heap.size/\w1.heap.size<X.heap.size from ⟨zam p.o.res,zam p.o.itm⟩);clear U hS hF s hD hd a8 a6)
         | (go_at_call 53;refine (J.o _ M.o.2.1 a1.o.st).mono ?_;rintro e8 w8 ⟨⟨rfl,aD⟩,a7⟩;have aA:=zq (a1.o.move hg aD a7);have aK:=zq a7;obtain ⟨⟨b0,b1,b2,b3,b4,b5,b6,b7,b8,b9,bb⟩,-⟩:=zbd aA.o.itm;obtain ⟨⟨y0,y1,y2,y3,y4,y5,y6,y7,y8,y9,bd⟩,z0,z1,z2,z3,z4,z5,z6,z7,z8,z9,bk⟩:=zbd aA.o.res;clear aD a7))
        have R1:=zil aA.o.res (.int .i64 1) (.string (tk toks (i+1)).text) (.int .i64 x.1.f0) (.string x.1.f1) (.string x.1.f2) (.slice Y n3 c3) (.slice Z n4 c4) (.slice A5 n5 c5) (.slice A6 n6 c6) (.int .i64 x.1.f7) (.int .i64 (tk toks i).place);have R3:=zfc w8 W.heap.size (.int .i64 1) (.string (tk toks (i+1)).text) (.int .i64 x.1.f0) (.string x.1.f1) (.string x.1.f2) (.slice Y n3 c3) (.slice Z n4 c4) (.slice A5 n5 c5) (.slice A6 n6 c6) (.int .i64 x.1.f7) (.int .i64 (tk toks i).place);refine qaf (qau rfl _ _ W.heap.size 62 #[.int .i64 1,.string (tk toks (i+1)).text,.int .i64 x.1.f0,.string x.1.f1,.string x.1.f2,.slice Y n3 c3,.slice Z n4 c4,.slice A5 n5 c5,.slice A6 n6 c6,.int .i64 x.1.f7,.int .i64 (tk toks i).place] (0,0) _ rfl R1 underlying62 rfl kae) rfl ?_;exact zrw hg O M.o.1 M.o.2.1 M.o.2.2 au.o.1 au.o.2 af.o aA.o aK.o R3 (aM.o M.o.2.1)
       rw [if_neg h4] at d;subst d;simp only [PR.bind];have J:=zq (fun W' s y=>J.o W' j s y);simp only [if_neg h4] at J;go_wp2_with (first
        | (go_at_call 52;refine (D.o _ G.o.st).mono ?_;rintro e5 w5 ⟨⟨rfl,A⟩,q⟩;have u:=zq (G.o.move hg A q);obtain ⟨⟨u0,u1,-⟩,-,g1,-⟩:=zbd u.o.itm;have w:=zq (u.o.put hg O 1 (.string (tk toks (i+1)).text) (cells':=zcj 1 (tk toks (i+1)).text (tk toks i).place) rfl);clear A q D)
        | (go_at_call 53;refine (E.o _ w.o.st).mono ?_;rintro e6 X ⟨⟨rfl,I⟩,B⟩;have p:=zq (w.o.move hg I B);clear I B E)
        | (go_at_call 54;refine (a6.o _ p.o.st).mono ?_;rintro e7 w7 ⟨cs,L,rfl,U,hS,hF,s,hD,hd,a8⟩;obtain ⟨v3,v4,v5,v6,rfl,-,-,-,-,Y,n3,c3,Z,n4,c4,A5,n5,c5,A6,n6,c6,rfl,rfl,rfl,rfl⟩:=zax U;have af:=zq (p.o.move hg hS hF);obtain ⟨⟨k0,k1,k2,k3,k4,k5,k6,k7,k8,k9,aS⟩,l0,l1,l2,l3,l4,l5,l6,l7,l8,l9,l10⟩:=zbd af.o.itm;have a1:=zq (af.o.put8 hg O rfl (.int .i64 x.1.f0) (.string x.1.f1) (.string x.1.f2) (.slice Y n3 c3) (.slice Z n4 c4) (.slice A5 n5 c5) (.slice A6 n6 c6) (.int .i64 x.1.f7));have M:=zq (And.intro U (And.intro s a8));have au:=zq (show W.heap.size<X.heap.size/\w1.heap.size<X.heap.size from ⟨zam p.o.res,zam p.o.itm⟩);clear U hS hF s hD hd a8 a6)
        | (go_at_call 53;refine (J.o _ M.o.2.1 a1.o.st).mono ?_;rintro e8 w8 ⟨rfl,a7⟩))
       exact ⟨rfl,rfl,a1.o.fr.trans a7⟩
     rw [if_neg h3] at d;simp only [if_neg h3] at E;have d:=qaa d;subst d;go_wp2_with (first
      | (go_at_call 52;refine (D.o _ G.o.st).mono ?_;rintro e5 w5 ⟨⟨rfl,A⟩,q⟩;have u:=zq (G.o.move hg A q);obtain ⟨⟨u0,u1,-⟩,-,g1,-⟩:=zbd u.o.itm;have w:=zq (u.o.put hg O 1 (.string (tk toks (i+1)).text) (cells':=zcj 1 (tk toks (i+1)).text (tk toks i).place) rfl);clear A q D)
      | (go_at_call 53;refine (E.o _ w.o.st).mono ?_;rintro e6 X ⟨rfl,B⟩))
     exact ⟨rfl,rfl,w.o.fr.trans B⟩
    simp only [if_neg hz] at d;unfold zdg at d;have E:=zq (fun W' (y:PSt W' g T c toks (i+1+1))=>zeh W' g T c toks (i+1+1) _ (zdp toks aJ) zim y);by_cases h3:isT (tk toks (i+1+1)) zim=true
    ·rw [if_pos h3] at d;simp only [if_pos h3] at E;dsimp only at d;have aQ:=aB.o (i+1+1) aJ (zcd h3);cases hc:zce toks k 0 (i+1+1+1) with
     | none=>rw [hc] at d;cases d
     | some r=>
     rw [hc] at d;have a6:=zq (fun W' y=>(zmm g T c toks aB.o k).1 W' (i+1+1+1) r aQ y hc);clear hc;cases r with
     | bad ke pe=>
      have d:=qaa d;subst d;go_wp2_with (first
       | (go_at_call 52;refine (D.o _ G.o.st).mono ?_;rintro e5 w5 ⟨⟨rfl,A⟩,q⟩;have u:=zq (G.o.move hg A q);obtain ⟨⟨u0,u1,-⟩,-,g1,-⟩:=zbd u.o.itm;have w:=zq (u.o.put hg O 1 (.string (tk toks (i+1)).text) (cells':=zcj z (tk toks (i+1)).text (tk toks i).place) rfl);clear A q D)
       | (go_at_call 53;refine (E.o _ w.o.st).mono ?_;rintro e6 X ⟨⟨rfl,I⟩,B⟩;have p:=zq (w.o.move hg I B);clear I B E)
       | (go_at_call 54;refine (a6.o _ p.o.st).mono ?_;rintro e7 w7 ⟨rfl,aP⟩))
      exact ⟨rfl,rfl,p.o.fr.trans aP⟩
     | ok x j=>
      have d:=qaa d;unfold zdg at d;by_cases h4:isT (tk toks j) zjc=true
      ·rw [if_pos h4] at d;subst d;simp only [PR.bind];have J:=zq (fun W' s y=>J.o W' j s y);simp only [if_pos h4] at J;have aM:=zq (fun s=>aB.o j s (zcd h4));go_wp2_with (first
        | (go_at_call 52;refine (D.o _ G.o.st).mono ?_;rintro e5 w5 ⟨⟨rfl,A⟩,q⟩;have u:=zq (G.o.move hg A q);obtain ⟨⟨u0,u1,-⟩,-,g1,-⟩:=zbd u.o.itm;have w:=zq (u.o.put hg O 1 (.string (tk toks (i+1)).text) (cells':=zcj z (tk toks (i+1)).text (tk toks i).place) rfl);clear A q D)
        | (go_at_call 53;refine (E.o _ w.o.st).mono ?_;rintro e6 X ⟨⟨rfl,I⟩,B⟩;have p:=zq (w.o.move hg I B);clear I B E)
        | (go_at_call 54;refine (a6.o _ p.o.st).mono ?_;rintro e7 w7 ⟨cs,L,rfl,U,hS,hF,s,hD,hd,a8⟩;obtain ⟨v3,v4,v5,v6,rfl,-,-,-,-,Y,n3,c3,Z,n4,c4,A5,n5,c5,A6,n6,c6,rfl,rfl,rfl,rfl⟩:=zax U;have af:=zq (p.o.move hg hS hF);obtain ⟨⟨k0,k1,k2,k3,k4,k5,k6,k7,k8,k9,aS⟩,l0,l1,l2,l3,l4,l5,l6,l7,l8,l9,l10⟩:=zbd af.o.itm;have a1:=zq (af.o.put8 hg O rfl (.int .i64 x.1.f0) (.string x.1.f1) (.string x.1.f2) (.slice Y n3 c3) (.slice Z n4 c4) (.slice A5 n5 c5) (.slice A6 n6 c6) (.int .i64 x.1.f7));have M:=zq (And.intro U (And.intro s a8));have au:=zq (show W.heap.size<X.heap.size/\w1.heap.size<X.heap.size from ⟨zam p.o.res,zam p.o.itm⟩);clear U hS hF s hD hd a8 a6)
        | (go_at_call 53;refine (J.o _ M.o.2.1 a1.o.st).mono ?_;rintro e8 w8 ⟨⟨rfl,aD⟩,a7⟩;have aA:=zq (a1.o.move hg aD a7);have aK:=zq a7;obtain ⟨⟨b0,b1,b2,b3,b4,b5,b6,b7,b8,b9,bb⟩,-⟩:=zbd aA.o.itm;obtain ⟨⟨y0,y1,y2,y3,y4,y5,y6,y7,y8,y9,bd⟩,z0,z1,z2,z3,z4,z5,z6,z7,z8,z9,bk⟩:=zbd aA.o.res;clear aD a7))
       have R1:=zil aA.o.res (.int .i64 z) (.string (tk toks (i+1)).text) (.int .i64 x.1.f0) (.string x.1.f1) (.string x.1.f2) (.slice Y n3 c3) (.slice Z n4 c4) (.slice A5 n5 c5) (.slice A6 n6 c6) (.int .i64 x.1.f7) (.int .i64 (tk toks i).place);have R3:=zfc w8 W.heap.size (.int .i64 z) (.string (tk toks (i+1)).text) (.int .i64 x.1.f0) (.string x.1.f1) (.string x.1.f2) (.slice Y n3 c3) (.slice Z n4 c4) (.slice A5 n5 c5) (.slice A6 n6 c6) (.int .i64 x.1.f7) (.int .i64 (tk toks i).place);refine qaf (qau rfl _ _ W.heap.size 62 #[.int .i64 z,.string (tk toks (i+1)).text,.int .i64 x.1.f0,.string x.1.f1,.string x.1.f2,.slice Y n3 c3,.slice Z n4 c4,.slice A5 n5 c5,.slice A6 n6 c6,.int .i64 x.1.f7,.int .i64 (tk toks i).place] (0,0) _ rfl R1 underlying62 rfl kae) rfl ?_;exact zrw hg O M.o.1 M.o.2.1 M.o.2.2 au.o.1 au.o.2 af.o aA.o aK.o R3 (aM.o M.o.2.1)
      rw [if_neg h4] at d;subst d;simp only [PR.bind];have J:=zq (fun W' s y=>J.o W' j s y);simp only [if_neg h4] at J;go_wp2_with (first
       | (go_at_call 52;refine (D.o _ G.o.st).mono ?_;rintro e5 w5 ⟨⟨rfl,A⟩,q⟩;have u:=zq (G.o.move hg A q);obtain ⟨⟨u0,u1,-⟩,-,g1,-⟩:=zbd u.o.itm;have w:=zq (u.o.put hg O 1 (.string (tk toks (i+1)).text) (cells':=zcj z (tk toks (i+1)).text (tk toks i).place) rfl);clear A q D)
       | (go_at_call 53;refine (E.o _ w.o.st).mono ?_;rintro e6 X ⟨⟨rfl,I⟩,B⟩;have p:=zq (w.o.move hg I B);clear I B E)
       | (go_at_call 54;refine (a6.o _ p.o.st).mono ?_;rintro e7 w7 ⟨cs,L,rfl,U,hS,hF,s,hD,hd,a8⟩;obtain ⟨v3,v4,v5,v6,rfl,-,-,-,-,Y,n3,c3,Z,n4,c4,A5,n5,c5,A6,n6,c6,rfl,rfl,rfl,rfl⟩:=zax U;have af:=zq (p.o.move hg hS hF);obtain ⟨⟨k0,k1,k2,k3,k4,k5,k6,k7,k8,k9,aS⟩,l0,l1,l2,l3,l4,l5,l6,l7,l8,l9,l10⟩:=zbd af.o.itm;have a1:=zq (af.o.put8 hg O rfl (.int .i64 x.1.f0) (.string x.1.f1) (.string x.1.f2) (.slice Y n3 c3) (.slice Z n4 c4) (.slice A5 n5 c5) (.slice A6 n6 c6) (.int .i64 x.1.f7));have M:=zq (And.intro U (And.intro s a8));have au:=zq (show W.heap.size<X.heap.size/\w1.heap.size<X.heap.size from ⟨zam p.o.res,zam p.o.itm⟩);clear U hS hF s hD hd a8 a6)
       | (go_at_call 53;refine (J.o _ M.o.2.1 a1.o.st).mono ?_;rintro e8 w8 ⟨rfl,a7⟩))
      exact ⟨rfl,rfl,a1.o.fr.trans a7⟩
    rw [if_neg h3] at d;simp only [if_neg h3] at E;have d:=qaa d;subst d;go_wp2_with (first
     | (go_at_call 52;refine (D.o _ G.o.st).mono ?_;rintro e5 w5 ⟨⟨rfl,A⟩,q⟩;have u:=zq (G.o.move hg A q);obtain ⟨⟨u0,u1,-⟩,-,g1,-⟩:=zbd u.o.itm;have w:=zq (u.o.put hg O 1 (.string (tk toks (i+1)).text) (cells':=zcj z (tk toks (i+1)).text (tk toks i).place) rfl);clear A q D)
     | (go_at_call 53;refine (E.o _ w.o.st).mono ?_;rintro e6 X ⟨rfl,B⟩))
    exact ⟨rfl,rfl,w.o.fr.trans B⟩
   rw [if_neg h2] at d;simp only [if_neg h2] at D;have d:=qaa d;subst d;go_wp2_with (go_at_call 52;refine (D.o _ G.o.st).mono ?_;rintro e5 w5 ⟨rfl,q⟩);exact ⟨rfl,rfl,G.o.fr.trans q⟩
 rw [if_neg hk] at d;have d:=qaa d;subst d;clear aR;go_wp2_with (go_at_call 51;refine (aL.o _ 90 ad.o.st).mono ?_;rintro e5 w5 ⟨rfl,aF⟩);exact ⟨rfl,rfl,ad.o.fr.trans (Fr.of_below aF)⟩
end
end
section
def gB (k:Int) (b:UInt8):Bool:=zev k (b.toNat:Int)
def runS (k:Int):List UInt8->Nat
 | []=>0
 | _::r=>1+(r.takeWhile (gB k)).length
theorem zse (s:ByteArray) (i:Nat) (h:i<s.size):(bl s)[i]'(by rw [zbm];exact h)=s[i]'h:=rfl
theorem zpu (k c:Int) (hk:k≠2) (o:128<=c):zev k c=false:=by
 unfold zev;by_cases h1:k=1
 ·rw [if_pos h1];have:zbc c=0:=by unfold zbc;repeat rw [if_neg kab]
  rw [this];rfl
 rw [if_neg h1,if_neg hk];by_cases d:k=3
 ·rw [if_pos d,qak kab]
 rw [if_neg d];by_cases e:k=4
 ·rw [if_pos e,qak kab]
 rw [if_neg e];by_cases n:k=5
 ·rw [if_pos n,qak kab]
 rw [if_neg n]
theorem zko (s:ByteArray) (pos:Nat) (h:pos<s.size) (q:128<=(s[pos]'h).toNat):∀ j,j<(Utf8.decode s pos).2->∃ n:pos+j<s.size,128<=(s[pos+j]'n).toNat:=by
 have o:∀ k,(decide (pos+k<s.size)&&((s.get! (pos+k)).toNat/64==2))=true->∃ n:pos+k<s.size,128<=(s[pos+k]'n).toNat:=by
  intro k hk;simp only [qbj,decide_eq_true_eq,qar] at hk;refine ⟨hk.1,?_⟩;have e:s.get! (pos+k)=s[pos+k]'hk.1:=get_at s (pos+k) hk.1;have:=hk.2;rw [e] at this;omega
 have zero:∃ n:pos+0<s.size,128<=(s[pos+0]'n).toNat:=⟨h,q⟩;intro j d;have p:s.get! (pos+0)=s[pos]'h:=get_at s pos h;unfold Utf8.decode at d;simp only [p] at d;rw [if_neg kab] at d;have one:j<1->∃ n:pos+j<s.size,128<=(s[pos+j]'n).toNat:=fun h1=>by
  obtain rfl:j=0:=kab;exact zero
 split at d
 ·rename_i c;simp only [qbj] at c;have c1:=o 1 (by simpa using c.2);split at d
  ·have d:j<2:=d
   match j,d with
   | 0,_=>exact zero
   | 1,_=>exact c1
  exact one d
 split at d
 ·rename_i c;simp only [qbj] at c;have c1:=o 1 (by simpa using c.1.2);have c2:=o 2 (by simpa using c.2);split at d
  ·have d:j<3:=d
   match j,d with
   | 0,_=>exact zero
   | 1,_=>exact c1
   | 2,_=>exact c2
  exact one d
 split at d
 ·rename_i c;simp only [qbj] at c;have c1:=o 1 (by simpa using c.1.1.2);have c2:=o 2 (by simpa using c.1.2);have c3:=o 3 (by simpa using c.2);split at d
  ·have d:j<4:=d
   match j,d with
   | 0,_=>exact zero
   | 1,_=>exact c1
   | 2,_=>exact c2
   | 3,_=>exact c3
  exact one d
 exact one d
theorem take_many (p:UInt8->Bool):∀ (w:Nat) (l:List UInt8),w<=l.length->(∀ j (h:j<l.length),j<w->p l[j]=true)->(l.takeWhile p).length=w+((l.drop w).takeWhile p).length:=by
 intro w;induction w with
 | zero=>intro l _ _;simp
 | succ w n=>
  intro l d hp
  match l,d with
  | a::l,d=>
   have e:p a=true:=hp 0 (by simp) kab;rw [qcb e,qbe,List.drop_succ_cons,n l (by simpa using d) (fun j h o=>by have:=hp (j+1) (by simpa using h) kab;simpa using this)];omega
theorem zrk (k:Int) (s:ByteArray):∀ (e pos:Nat),0<pos->pos<=s.size->s.size-pos+1<=e->lex_run.go k s e pos=some (((pos+(((bl s).drop pos).takeWhile (gB k)).length:Nat)):Int):=by
 have E:=zbm s;intro e;induction e using Nat.strongRecOn with
 | ind e p=>
  intro pos r hp hf;obtain ⟨f,rfl⟩:∃ m,e=m+1:=⟨e-1,kab⟩;rw [lex_run.go];by_cases d:pos<s.size
  ·rw [if_pos d,if_pos r,lex_goes_eq];simp only [qam];have hd:=zem (bl s) pos kab;by_cases u:(s[pos]'d).toNat<128
   ·have y:=decode_ascii s pos d u;rw [y,hd];show (if zev k (((s[pos]'d).toNat:Nat):Int)=true then _ else _)=_;by_cases hg:zev k (((s[pos]'d).toNat:Nat):Int)=true
    ·rw [if_pos hg,qcb (show gB k (bl s)[pos]=true from hg),p f kab (pos+1) kab kab kab,qbe];congr 2;omega
    rw [if_neg hg,qcc (show ¬gB k (bl s)[pos]=true from hg)];rfl
   obtain ⟨x,A⟩:=decode_high s pos d kab;by_cases n:k=2
   ·subst n;have o:=zko s pos d kab;generalize (Utf8.decode s pos).2=w at A o;generalize (Utf8.decode s pos).1=c at x;have hg:zev 2 (c:Int)=true:=(by show (if (2:Int)=1 then _ else if (2:Int)=2 then _ else _)=true;rw [if_neg kad,if_pos rfl];rw [qbc];omega);rw [if_pos hg];obtain ⟨D,_⟩:=o (w-1) kab;rw [p f kab (pos+w) kab kab kab];rw [take_many (gB 2) w ((bl s).drop pos) (by rw [qbr];omega) (fun j h z=>?_),List.drop_drop]
    ·congr 2;omega
    obtain ⟨q,B⟩:=o j z;rw [List.getElem_drop];show zev 2 (((bl s)[pos+j].toNat:Nat):Int)=true;rw [zse s (pos+j) q];show (if (2:Int)=1 then _ else if (2:Int)=2 then _ else _)=true;rw [if_neg kad,if_pos rfl,qbc];omega
   rw [zpu k _ n kab,if_neg kad,hd,qcc]
   ·rfl
   show ¬zev k (((bl s)[pos].toNat:Nat):Int)=true;rw [zse s pos d,zpu k _ n kab];decide
  rw [if_neg d,qaz kab];have:pos=s.size:=kab;simp [this]
theorem zka (k:Int) (s:ByteArray) (n:s.size<=9223372036854775807) (d:0<s.size) (e:(s[0]'d).toNat<128):lex_run.f k s=some ((runS k (bl s):Nat):Int):=by
 have o:=zbm s;unfold lex_run.f;rw [if_pos n,lex_run.go,if_pos d,if_neg kab,decode_ascii s 0 d e];show lex_run.go k s s.size (0+1)=_;rw [zrk k s s.size 1 kab kab kab];have hd:=zem (bl s) 0 kab;rw [List.drop_zero] at hd
 conv=>rhs;rw [hd]
 rfl
theorem runS_all (k:Int) (b:UInt8) (r:List UInt8):runS k (b::r)=(b::r).length↔r.all (gB k)=true:=by
 show 1+(r.takeWhile (gB k)).length=r.length+1↔_;constructor
 ·intro h;have h1:r.takeWhile (gB k)=r:=List.IsPrefix.eq_of_length (List.takeWhile_prefix _) kab;rw [<-h1];exact List.all_takeWhile
 intro h;have:r.takeWhile (gB k)=r:=by
  clear b;induction r with
  | nil=>rfl
  | cons a r d=>
   simp only [List.all_cons,qbj] at h;rw [qcb h.1,d h.2]
 rw [this];omega
end
section
def ziv (s:ByteArray):Bool:=
 match bl s with
 | []=>false
 | b::r=>decide (97<=(b.toNat:Int)/\(b.toNat:Int)<=122)&&(r.all (gB 3)&&(decide (s.size<=32)&&!ziu s))
theorem zle (c:Int) (d:0<=c) (h1:c<256):wrap32 c=c:=by unfold wrap32;omega
theorem toList_bl (s:ByteArray):s.toList=bl s:=Lib.toList_data s
theorem zkq (c:Int):zbc c=3↔97<=c/\c<=122:=by
 unfold zbc;constructor
 ·intro h;split at h
  ·cases h
  split at h
  ·cases h
  split at h
  ·assumption
  split at h
  ·cases h
  split at h
  ·cases h
  split at h
  ·cases h
  split at h<;>cases h
 intro h;rw [if_neg kab,if_neg kab,if_pos h]
theorem lex_isname_eq (s:ByteArray) (y:s.size<=140737488351232) (k:Nat) (hk:100<=k):lex_IsName.f k s=some (ziv s):=by
 have n:=zbm s;unfold lex_IsName.f ziv;rw [toList_bl]
 match d:bl s with
 | []=>rw [if_pos rfl]
 | b::r=>
  rw [d] at n;have o:0<s.size:=by rw [<-n];simp
  have w:bt s 0=(b.toNat:Int):=by
   have:=zfm s 0 (by rw [d];simp);simpa [d] using this
  have hg:s[0]'o=b:=by
   have h1:=zse s 0 o;rw [<-h1];simp [d]
  have x:=b.toNat_lt;rw [if_neg (by simp),if_pos kab,w,zle _ kab kab,zgw];simp only [qam];by_cases hs:97<=(b.toNat:Int)/\(b.toNat:Int)<=122
  ·rw [if_pos ((zkq _).2 hs),zka 3 s kab o (by rw [hg];omega),d];simp only [qam];have u:=runS_all 3 b r;rw [qac hs,Bool.true_and];by_cases hr:r.all (gB 3)=true
   ·have p:(runS 3 (b::r):Int)=(s.size:Int):=(by rw [u.2 hr,n]);rw [if_pos p,hr,Bool.true_and];by_cases q:(s.size:Int)<=32
    ·rw [if_pos q,zjh s k hk,qac (show s.size<=32 by omega)];rfl
    rw [if_neg q,qak (show ¬s.size<=32 by omega)];rfl
   have p:¬(runS 3 (b::r):Int)=(s.size:Int):=fun e=>hr (u.1 (by rw [n];omega));rw [if_neg p,qbf.2 hr];rfl
  rw [if_neg (fun e=>hs ((zkq _).1 e)),qak hs];rfl
theorem zth (c:Int):zev 3 c=decide (97<=c/\c<=122\/48<=c/\c<=57\/c=95\/c=45):=by
 unfold zev;rw [if_neg kad,if_neg kad,if_pos rfl]
theorem ztg (c:Int):zev 4 c=decide (65<=c/\c<=90):=by
 unfold zev;rw [if_neg kad,if_neg kad,if_neg kad,if_pos rfl]
theorem zol (c:Int):zev 5 c=decide (48<=c/\c<=57\/c=46\/c=47):=by
 unfold zev;rw [if_neg kad,if_neg kad,if_neg kad,if_neg kad,if_pos rfl]
def zga (k c:Int):Bool:=if k=1 then zev 3 c else if k=2 then zev 4 c else zev 5 c
theorem zkh (c:Int):lychgateref08_small.f c=some (decide (97<=c/\c<=122)):=zrh c
theorem zkj (c:Int):lychgateref08_great.f c=some (decide (65<=c/\c<=90)):=zsa c
theorem zkk (c:Int):lychgateref08_digit.f c=some (decide (48<=c/\c<=57)):=zoo c
theorem ref_within_eq (k c:Int):lychgateref08_within.f k c=some (zga k c):=by
 unfold lychgateref08_within.f;rw [zkh,zkk,zkj];simp only [qam];unfold zga;by_cases h1:k=1
 ·rw [if_pos h1,if_pos h1,zth];by_cases a:97<=c/\c<=122
  ·rw [if_pos (qac a),qac (.inl a)]
  rw [if_neg (by simpa using a)];by_cases b:48<=c/\c<=57
  ·rw [if_pos (qac b),qac (.inr (.inl b))]
  rw [if_neg (by simpa using b)];by_cases d:c=95
  ·rw [if_pos d,qac (.inr (.inr (.inl d)))]
  rw [if_neg d];by_cases e:c=45
  ·rw [qac (.inr (.inr (.inr e)))];simp [e]
  rw [qak kab];simp [e]
 rw [if_neg h1,if_neg h1];by_cases n:k=2
 ·rw [if_pos n,if_pos n,ztg]
 rw [if_neg n,if_neg n,zol];by_cases b:48<=c/\c<=57
 ·rw [if_pos (qac b),qac (.inl b)]
 rw [if_neg (by simpa using b)];by_cases d:c=46
 ·rw [if_pos d,qac (.inr (.inl d))]
 rw [if_neg d];by_cases e:c=47
 ·rw [qac (.inr (.inr e))];simp [e]
 rw [qak kab];simp [e]
theorem ref_run_l0 (m:Int) (s:ByteArray) (q:s.size<=140737488351232):∀ (d pos k:Nat),pos+d=s.size->d+1<=k->lychgateref08_run.l0 k m s (pos:Int)=some ((pos+(((bl s).drop pos).takeWhile fun b=>zga m (b.toNat:Int)).length:Nat):Int):=by
 have o:=zbm s;intro d;induction d with
 | zero=>
  intro pos k hp hk;obtain ⟨k,rfl⟩:∃ m,k=m+1:=⟨k-1,kab⟩;simp only [lychgateref08_run.l0];rw [if_neg kab,qaz kab];simp
 | succ d n=>
  intro pos k hp hk;obtain ⟨k,rfl⟩:∃ m,k=m+1:=⟨k-1,kab⟩;have e:pos<(bl s).length:=kab;simp only [lychgateref08_run.l0];rw [if_pos kab,if_pos kab,zfm s pos e,ref_within_eq,zem _ pos e];simp only [qam];by_cases h:zga m ((bl s)[pos].toNat:Int)=true
  ·rw [if_pos h,zct pos kab,n (pos+1) k kab kab,qcb (p:=fun b:UInt8=>zga m (b.toNat:Int)) h,qbe];congr 2;omega
  rw [if_neg h,qcc (p:=fun b:UInt8=>zga m (b.toNat:Int)) h];rfl
theorem ref_run_eq (m:Int) (s:ByteArray) (d:s.size<=140737488351232) (pos k:Nat) (hp:pos<=s.size) (hk:s.size+1<=k):lychgateref08_run.f k m s (pos:Int)=some ((pos+(((bl s).drop pos).takeWhile fun b=>zga m (b.toNat:Int)).length:Nat):Int):=
 ref_run_l0 m s d (s.size-pos) pos k kab kab
end
section
theorem zog (l:List UInt8):strOfNums (l.map fun b=>(b.toNat:Int))=toS l:=Go.Lib.Lz.strOfNums_map l
theorem bl_toS (l:List UInt8):bl (toS l)=l:=rfl
theorem zuo (s:ByteArray):toS (bl s)=s:=rfl
def qdS:List UInt8->Option (List UInt8×Nat)
 | []=>none
 | [c]=>if c.toNat=34 then some ([],1) else none
 | c::d::r=>
  if c.toNat=34 then some ([],1)
  else if c.toNat=92 then (if d.toNat=34\/d.toNat=92 then (qdS r).map (fun x=>(d::x.1,x.2+2)) else none)
  else if c.toNat<32\/126<c.toNat then none
  else (qdS (d::r)).map (fun x=>(c::x.1,x.2+1))
theorem zob (c:UInt8) (r:List UInt8) (h:c.toNat=34):qdS (c::r)=some ([],1):=by
 cases r<;>simp [qdS,h]
theorem zoa (c d:UInt8) (r:List UInt8) (h:c.toNat=92):qdS (c::d::r)=if d.toNat=34\/d.toNat=92 then (qdS r).map (fun x=>(d::x.1,x.2+2)) else none:=by
 simp [qdS,h]
theorem zlr (c:UInt8) (r:List UInt8) (h:c.toNat<32\/126<c.toNat):qdS (c::r)=none:=by
 cases r with
 | nil=>simp only [qdS];rw [if_neg kab]
 | cons d r=>simp only [qdS];rw [if_neg kab,if_neg kab,if_pos h]
theorem zkx (c:UInt8) (r:List UInt8) (h1:c.toNat≠34) (e:c.toNat≠92) (h:¬(c.toNat<32\/126<c.toNat)):qdS (c::r)=(qdS r).map (fun x=>(c::x.1,x.2+1)):=by
 cases r with
 | nil=>simp only [qdS];rw [if_neg h1];rfl
 | cons d r=>simp only [qdS];rw [if_neg h1,if_neg e,if_neg h]
def qdR (acc:List UInt8) (i:Nat):Option (List UInt8×Nat)->ByteArray×Int×Bool
 | some (o,n)=>(toS (acc++o),((i+n:Nat):Int),decide ((acc++o).length<=200))
 | none=>((⟨#[]⟩:ByteArray),0,false)
theorem zht (acc:List UInt8) (c:UInt8) (i m:Nat) (x:Option (List UInt8×Nat)):qdR (acc++[c]) (i+m) x=qdR acc i (x.map fun x=>(c::x.1,x.2+m)):=by
 cases x with
 | none=>rfl
 | some x=>
  simp only [qdR,Option.map_some,qbl,List.cons_append,List.nil_append];rw [show i+m+x.2=i+(x.2+m) by omega]
theorem quoted_l0 (s:ByteArray) (G:s.size<=8000):∀ (d i k:Nat) (acc:List UInt8),i+d=(bl s).length->d+1<=k->acc.length<=i ->
  lex_quoted.l0 k s (acc.map fun b=>(b.toNat:Int)) (i:Int)=some (qdR acc i (qdS ((bl s).drop i))):=by
 have E:=zbm s;intro d;induction d using Nat.strongRecOn with
 | _ d u=>
 intro i k acc hi hk B;obtain ⟨k,rfl⟩:∃ m,k=m+1:=⟨k-1,kab⟩;have A:(acc.map fun b=>(b.toNat:Int)).length=acc.length:=qci ..;simp only [lex_quoted.l0];by_cases hd:d=0
 ·rw [if_neg kab,qaz kab];rfl
 have q:i<(bl s).length:=kab;rw [if_pos kab,if_pos kab,zfm s i q,zct i kab,zem _ i q];have y:=(bl s)[i].toNat_lt;generalize (bl s)[i]=c at y;by_cases n:c.toNat=34
 ·rw [if_pos kab,zob _ _ n,zog,A];simp [qdR];omega
 rw [if_neg kab];have snoc:∀ e:UInt8,(acc.map fun b=>(b.toNat:Int))++[(e.toNat:Int)]=(acc++[e]).map fun b=>(b.toNat:Int):=fun e=>by simp
 have p:∀ e:UInt8,(acc++[e]).length=acc.length+1:=fun e=>by simp
 by_cases o:c.toNat=92
 ·rw [if_pos kab];by_cases D:i+1=(bl s).length
  ·rw [if_pos kab,qaz kab];simp only [qdS];rw [if_neg n];rfl
  have r:i+1<(bl s).length:=kab;rw [if_neg kab,if_pos kab,if_pos kab,zfm s (i+1) r,zct (i+1) kab,zem _ (i+1) r,zoa _ _ _ o];have z:=(bl s)[i+1].toNat_lt;generalize (bl s)[i+1]=e at z;have key:=fun (h:e.toNat=34\/e.toNat=92)=>u (d-2) kab (i+2) k (acc++[e]) kab kab (by rw [p];omega);rw [show i+1+1=i+2 by omega,snoc];by_cases g:e.toNat=34
  ·rw [if_pos kab,if_pos kab,if_pos (.inl g),key (.inl g),zht]
  rw [if_neg kab];by_cases g2:e.toNat=92
  ·rw [if_pos kab,if_pos kab,if_pos (.inr g2),key (.inr g2),zht]
  rw [if_neg kab,if_neg kab];rfl
 rw [if_neg kab];by_cases x:c.toNat<32
 ·rw [if_pos kab,zlr _ _ (.inl x)];rfl
 rw [if_neg kab];by_cases w:126<c.toNat
 ·rw [if_pos kab,zlr _ _ (.inr w)];rfl
 rw [if_neg kab,if_pos kab,snoc,zkx _ _ n o kab,u (d-1) kab (i+1) k (acc++[c]) kab kab (by rw [p];omega),zht]
theorem quoted_ev (s:ByteArray) (d:s.size<=8000) (e:0<s.size) (k:Nat) (hk:s.size+1<=k):lex_quoted.f k s=some (qdR [] 1 (qdS ((bl s).drop 1))):=by
 have n:=zbm s;have:=quoted_l0 s d ((bl s).length-1) 1 k [] kab kab (by simp);exact this
theorem zsw:∀ (m:Nat) (u:List UInt8) (o:List UInt8) (n:Nat),u.length<=m->qdS u=some (o,n)->n<=u.length/\0<n/\∀ v:List UInt8,qdS (u.take n++v)=some (o,n):=by
 intro m;induction m with
 | zero=>
  intro u o n s h
  match u with
  | []=>cases h
  | c::r=>rw [qbe] at s;omega
 | succ m A=>
  intro u o n s h
  match u with
  | []=>cases h
  | c::r=>
   rw [qbe] at s;by_cases p:c.toNat=34
   ·rw [zob c r p] at h;obtain ⟨rfl,rfl⟩:=Prod.mk.inj (qaa h);refine ⟨by simp,kad,fun v=>?_⟩;exact zob c v p
   by_cases q:c.toNat=92
   ·match r with
    | []=>simp only [qdS] at h;rw [if_neg p] at h;cases h
    | e::r=>
     rw [zoa c e r q] at h;rw [qbe] at s;by_cases y:e.toNat=34\/e.toNat=92
     ·rw [if_pos y] at h
      match d:qdS r with
      | none=>rw [d] at h;cases h
      | some (z,n')=>
       rw [d] at h;obtain ⟨rfl,rfl⟩:=Prod.mk.inj (qaa h);obtain ⟨h1,B,w⟩:=A r z n' kab d;refine ⟨kbl,kab,fun v=>?_⟩;show qdS (c::e::(r.take n'++v))=_;rw [zoa c e _ q,if_pos y,w v];rfl
     rw [if_neg y] at h;cases h
   by_cases x:c.toNat<32\/126<c.toNat
   ·rw [zlr c r x] at h;cases h
   rw [zkx c r p q x] at h
   match d:qdS r with
   | none=>rw [d] at h;cases h
   | some (z,n')=>
    rw [d] at h;obtain ⟨rfl,rfl⟩:=Prod.mk.inj (qaa h);obtain ⟨h1,B,w⟩:=A r z n' kab d;refine ⟨kbl,kab,fun v=>?_⟩;show qdS (c::(r.take n'++v))=_;rw [zkx c _ p q x,w v];rfl
def numS (x:ByteArray):Int×ByteArray×Int×Int×Int×Int×Bool:=(lex_numbered.f x).getD (0,⟨#[]⟩,0,0,0,0,false)
theorem cut_size (s d:List UInt8):(Lib.cut s d).1.length<=s.length/\(Lib.cut s d).2.1.length<=s.length:=by
 unfold Lib.cut;split
 ·exact ⟨by rw [qbq];omega,by rw [qbr];omega⟩
 exact ⟨qad _,qbx _⟩
theorem zdk (l:List UInt8):(toS l).size=l.length:=rfl
theorem addr_parse_some (x:ByteArray) (d:x.size<=8000):∃ r,addr_Parse.f x=some r:=by
 unfold addr_Parse.f;rw [if_pos kab];exact ⟨_,rfl⟩
theorem addr_number_some (x:ByteArray) (m:Int) (e:x.size<=8000) (d:m<=4294967295):∃ r,addr_number.f x m=some r:=by
 unfold addr_number.f;rw [if_pos ⟨kab,d⟩];exact ⟨_,rfl⟩
theorem prefix_some (x:ByteArray) (o:x.size<=8000):∃ r,addr_ParsePrefix.f x=some r:=by
 have n:x.data.toList.length=x.size:=zbm x;unfold addr_ParsePrefix.f strings_Cut.f;rw [if_pos kab];simp only [qam];have d:=cut_size x.data.toList (ByteArray.mk #[47]).data.toList;generalize Lib.cut x.data.toList (ByteArray.mk #[47]).data.toList=y at d;obtain ⟨p,hp⟩:=addr_parse_some (toS y.1) (by rw [zdk];omega);obtain ⟨q,e⟩:=addr_number_some (toS y.2.1) 32 (by rw [zdk];omega) kad;rw [hp,e];simp only [qam,addr_right.f]
 repeat' (first|exact ⟨_,rfl⟩|split)
theorem num_ev (x:ByteArray) (e:x.size<=8000) (d:x.data.toList.all (fun b=>decide (b.toNat<128))=true):lex_numbered.f x=some (numS x):=by
 have:∃ r,lex_numbered.f x=some r:=by
  unfold lex_numbered.f strings_ContainsAny.f;rw [if_pos ⟨kab,kad,d,kad⟩];simp only [qam];split
  ·obtain ⟨r,hr⟩:=prefix_some x e;rw [hr];exact ⟨_,rfl⟩
  rw [if_pos kab];exact ⟨_,rfl⟩
 obtain ⟨r,h⟩:=this;rw [numS,h];rfl
def finS (i:Int) (x:ByteArray):Int ⊕ (S49×Nat):=
 if i=3 then (if ziu x=true then .inr (⟨1,x,0,⟨0,0⟩,0⟩,x.size) else if x.size>32 then .inl 82 else .inr (⟨2,x,0,⟨0,0⟩,0⟩,x.size))
 else if i=4 then (if x.size>16 then .inl 82 else .inr (⟨3,x,0,⟨0,0⟩,0⟩,x.size))
 else if i=5 then (if (numS x).2.2.2.2.2.2=true then .inr (⟨(numS x).1,(numS x).2.1,(numS x).2.2.1,⟨(numS x).2.2.2.1,(numS x).2.2.2.2.1⟩,0⟩,x.size) else .inl 81)
 else if i=7 then .inr (⟨7,x,0,⟨0,0⟩,0⟩,x.size)
 else .inr (⟨0,x,0,⟨0,0⟩,0⟩,x.size)
def tokS:List UInt8->Int ⊕ (S49×Nat)
 | [] => .inl 80
 | b::r=>
  if zbc (b.toNat:Int)=6 then
   match qdS r with
   | some (o,n)=>if o.length<=200 then .inr (⟨6,toS o,0,⟨0,0⟩,0⟩,n+1) else .inl 83
   | none => .inl 83
  else if zbc (b.toNat:Int)=0 then .inl 80
  else finS (zbc (b.toNat:Int)) (toS ((b::r).take (runS (zbc (b.toNat:Int)) (b::r))))
theorem zin (i:Int) (l:List UInt8):runS i l<=l.length:=by
 cases l with
 | nil=>exact qad _
 | cons b r=>
  have:=(List.takeWhile_prefix (gB i) (l:=r)).length_le;show 1+_<=r.length+1;omega
theorem zkw (i:Int) (b:UInt8) (r:List UInt8):0<runS i (b::r):=by
 show 0<1+_;omega
theorem run_some (i:Int) (s:ByteArray) (q:s.size<=8000) (d:0<s.size):∃ r:Nat,lex_run.f i s=some (r:Int)/\r<=s.size:=by
 have n:=zbm s;by_cases e:(s[0]'d).toNat<128
 ·exact ⟨_,zka i s kab d e,by rw [<-n];exact zin _ _⟩
 unfold lex_run.f;rw [if_pos kab,lex_run.go,if_pos d,if_neg kab];have o:=lex_run.width s 0 d;have hd:=zko s 0 d kab;generalize (Utf8.decode s 0).2=w at o hd;obtain ⟨p,_⟩:=hd (w-1) kab;rw [zrk i s s.size (0+w) kab kab kab];refine ⟨_,rfl,?_⟩;have:=(List.takeWhile_prefix (gB i) (l:=(bl s).drop (0+w))).length_le;rw [qbr] at this;omega
theorem zti (b:UInt8) (h:gB 5 b=true):b.toNat<128:=by
 unfold gB zev at h;rw [if_neg kad,if_neg kad,if_neg kad,if_neg kad,if_pos rfl] at h;have:=qbo h;omega
theorem begins_5 (c:Int) (h:zbc c=5):48<=c/\c<=57:=by
 unfold zbc at h;split at h
 ·cases h
 split at h
 ·cases h
 split at h
 ·cases h
 split at h
 ·cases h
 split at h
 ·assumption
 split at h
 ·cases h
 split at h<;>cases h
theorem begins_high (c:Int) (h:128<=c):zbc c=0:=by unfold zbc;repeat rw [if_neg kab]
theorem zkf (s:ByteArray) (n:Nat):s.extract 0 n=toS ((bl s).take n):=by
 apply ByteArray.ext;apply Array.toList_inj.1;simp [toS,bl,ByteArray.data_extract,Array.toList_extract]
theorem zkn (s:ByteArray) (n:Nat):s.extract n s.size=toS ((bl s).drop n):=by
 apply ByteArray.ext;apply Array.toList_inj.1;simp [toS,bl,ByteArray.data_extract,Array.toList_extract];exact List.take_of_length_le (by rw [qbr,show s.data.toList.length=s.size from zbm s];omega)
theorem zph (i:Int) (b:UInt8) (r:List UInt8):(b::r).take (runS i (b::r))=b::r.takeWhile (gB i):=by
 have e:runS i (b::r)=(r.takeWhile (gB i)).length+1:=by show 1+_=_;omega
 rw [e,qby,<-(List.prefix_iff_eq_take).1 (List.takeWhile_prefix (gB i))]
theorem token_ev (s:ByteArray) (X:s.size<=8000) (w:0<s.size) (k:Nat) (hk:9000<=k) :
  match tokS (bl s) with
  | .inl e=>e≠0/\∃ v,lex_token.f k s=some v/\v.2.2.2.2.2.2.2=e
  | .inr (t,n)=>0<n/\n<=s.size/\∃ z,lex_token.f k s=some (t.f0,t.f1,t.f2,t.f3.f0,t.f3.f1,z,(n:Int),0):=by
 have G:=zbm s;unfold lex_token.f
 match d:bl s with
 | []=>rw [d] at G;simp at G;omega
 | b::r=>
  have Y:bt s 0=(b.toNat:Int):=by
   have:=zfm s 0 (by rw [d];simp);simpa [d] using this
  have hg:s[0]'w=b:=by
   have h1:=zse s 0 w;rw [<-h1];simp [d]
  have a1:=b.toNat_lt;rw [if_pos kab,Y,zle _ kab kab,zgw];simp only [qam,tokS];by_cases y:zbc (b.toNat:Int)=6
  ·rw [if_pos y,if_pos y,quoted_ev s X w k kab,d];simp only [qam,List.drop_succ_cons,List.drop_zero]
   match hq:qdS r with
   | none=>exact ⟨kad,_,rfl,rfl⟩
   | some (o,n)=>
    simp only [qdR,List.nil_append];have hn:n<=r.length:=(zsw r.length r o n (qad _) hq).1;have ad:(b::r).length=s.size:=(by rw [<-d,G]);rw [qbe] at ad;by_cases hh:o.length<=200
    ·rw [if_pos hh];refine ⟨kab,kab,0,(if_pos (qac hh)).trans ?_⟩;rw [Nat.add_comm 1 n]
    rw [if_neg hh];exact ⟨kad,_,if_neg (by simpa using hh),rfl⟩
  rw [if_neg y,if_neg y];by_cases u:zbc (b.toNat:Int)=0
  ·obtain ⟨x,O,a7⟩:=run_some (zbc (b.toNat:Int)) s X w;rw [if_pos u,O,u];simp only [qam];rw [if_pos kab,if_pos kab,if_neg kad,if_neg kad,if_neg kad,if_neg kad,if_pos trivial];exact ⟨kad,_,rfl,rfl⟩
  rw [if_neg u];have U:b.toNat<128:=by
   rcases Nat.lt_or_ge b.toNat 128 with h|h
   ·exact h
   exact absurd (begins_high _ kab) u
  rw [zka _ s kab w (by rw [hg];exact U),d];have Z:=zin (zbc (b.toNat:Int)) (b::r);have af:=zkw (zbc (b.toNat:Int)) b r;have a6:(b::r).length=s.size:=by rw [<-d,G]
  have J:zbc (b.toNat:Int)=5->(toS ((b::r).take (runS (zbc (b.toNat:Int)) (b::r)))).data.toList.all (fun b=>decide (b.toNat<128))=true:=by
   intro p;rw [p,zph];show (b::r.takeWhile (gB 5)).all _=true;rw [List.all_cons,qac U,Bool.true_and,qbv];intro x O;exact qac (zti x (qbv.1 List.all_takeWhile x O))
  generalize hR:runS (zbc (b.toNat:Int)) (b::r)=R at Z af J;generalize hI:zbc (b.toNat:Int)=I at u y J;simp only [qam];rw [if_pos kab,if_pos kab,qax,zkf,d];have q:(toS ((b::r).take R)).size=R:=by rw [zdk,qbq];omega
  generalize toS ((b::r).take R)=x at q J;unfold finS;by_cases B:I=3
  ·rw [if_pos B,if_pos B,zjh x k kab];simp only [qam];by_cases M:ziu x=true
   ·rw [if_pos M,if_pos M];exact ⟨kab,kab,0,by rw [q]⟩
   rw [if_neg M,if_neg M];by_cases A:x.size>32
   ·rw [if_pos A,if_pos kab];exact ⟨kad,_,rfl,rfl⟩
   rw [if_neg A,if_neg kab];exact ⟨kab,kab,0,by rw [q]⟩
  rw [if_neg B,if_neg B];by_cases D:I=4
  ·rw [if_pos D,if_pos D];by_cases A:x.size>16
   ·rw [if_pos A,if_pos kab];exact ⟨kad,_,rfl,rfl⟩
   rw [if_neg A,if_neg kab];exact ⟨kab,kab,0,by rw [q]⟩
  rw [if_neg D,if_neg D];by_cases p:I=5
  ·rw [if_pos p,if_pos p,num_ev x kab (J p)];simp only [qam];by_cases L:(numS x).2.2.2.2.2.2=true
   ·rw [if_pos L,if_pos L];exact ⟨kab,kab,_,by rw [q]⟩
   rw [if_neg L,if_neg L];exact ⟨kad,_,rfl,rfl⟩
  rw [if_neg p,if_neg p];by_cases E:I=7
  ·rw [if_pos E,if_pos E];exact ⟨kab,kab,0,by rw [q]⟩
  rw [if_neg E,if_neg E,if_neg u];exact ⟨kab,kab,0,by rw [q]⟩
end
section
def atS (t:S49) (p:Nat):S49:=⟨t.f0,t.f1,t.f2,t.f3,(p:Int)⟩
def endS (p:Nat):S49:=⟨8,⟨#[]⟩,0,⟨0,0⟩,(p:Int)⟩
def zgf:Nat->List UInt8->Nat->(Int×Nat) ⊕ List S49
 | 0,_,p => .inl (0,p)
 | _+1,[],p => .inr [endS p]
 | d+1,b::r,p=>
  match tokS (b::r) with
  | .inl e => .inl (e,p)
  | .inr (t,n)=>
   match zgf d ((b::r).drop n) (p+n) with
   | .inl x => .inl x
   | .inr ts => .inr (if t.f0=0 then ts else atS t p::ts)
def zpf (acc:List S49):(Int×Nat) ⊕ List S49->List S49×Int×Int
 | .inl (e,p)=>([],e,(p:Int))
 | .inr ts=>(acc++ts,0,0)
theorem scan_l0 (s:ByteArray) (J:s.size<=8000):∀ (d i k:Nat) (acc:List S49),s.size-i<d->i<=s.size->9000+d<=k->acc.length<=i ->
  lex_Scan.l0 k s acc (i:Int)=some (zpf acc (zgf d ((bl s).drop i) i)):=by
 have B:=zbm s;intro d;induction d with
 | zero=>intro i k acc h;omega
 | succ d y=>
  intro i k acc hd hi hk G;obtain ⟨k,rfl⟩:∃ m,k=m+1:=⟨k-1,kab⟩;simp only [lex_Scan.l0];by_cases A:i=s.size
  ·rw [if_neg kab,if_pos kab,qaz kab,A];rfl
  have r:i<(bl s).length:=kab;have E:s.extract i s.size=toS ((bl s).drop i):=zkn s i;have D:(toS ((bl s).drop i)).size=s.size-i:=by rw [zdk,qbr,B]
  have ht:=token_ev (toS ((bl s).drop i)) kab kab k kab;rw [bl_toS] at ht;rw [if_pos kab,if_pos kab,if_pos kab,qax,E];rw [zem _ i r] at ht ⊢;rw [zgf]
  match u:tokS ((bl s)[i]::(bl s).drop (i+1)) with
  | .inl e=>
   rw [u] at ht;obtain ⟨q,v,p,w⟩:=ht;rw [p];simp only [qam];rw [if_neg (by rw [w];exact q),w];rfl
  | .inr (t,n)=>
   rw [u] at ht;obtain ⟨q,hn,z,p⟩:=ht;rw [<-zem _ i r] at p hn ⊢;rw [D] at hn;rw [p];simp only [qam];rw [if_pos trivial,show wrap64 ((i:Int)+(n:Int))=((i+n:Nat):Int) by unfold wrap64;omega,List.drop_drop];by_cases o:t.f0=0
   ·rw [if_pos o,y (i+n) k acc kab kab kab kab];simp only [if_pos o];cases zgf d ((bl s).drop (i+n)) (i+n)<;>rfl
   have I:(acc++[atS t i]).length=acc.length+1:=(by simp);rw [if_neg o,if_pos kab];show lex_Scan.l0 k s (acc++[atS t i]) _=_;rw [y (i+n) k (acc++[atS t i]) kab kab kab kab];simp only [if_neg o];cases zgf d ((bl s).drop (i+n)) (i+n) with
   | inl x=>rfl
   | inr ts=>simp [zpf,qbl]
def zcr (s:ByteArray):List S49×Int×Int:=if s.size>8000 then ([],84,8000) else zpf [] (zgf (s.size+1) (bl s) 0)
theorem zss (s:ByteArray) (k:Nat) (hk:18000<=k):lex_Scan.f k s=some (zcr s):=by
 unfold lex_Scan.f zcr;by_cases h:s.size>8000
 ·rw [if_pos kab,if_pos h]
 rw [if_neg kab,if_neg h];exact scan_l0 s kab (s.size+1) 0 k [] kab kab kab (by simp)
def zmo (i:Int):List UInt8->Bool
 | []=>true
 | b::_=>!gB i b
theorem zrl (i:Int) (b:UInt8) (r v:List UInt8) (h:zmo i v=true) (d:∀ x∈r,gB i x=true):runS i (b::(r++v))=(b::r).length:=by
 show 1+_=r.length+1;rw [List.takeWhile_append_of_pos d];cases v with
 | nil=>simp;omega
 | cons c v=>
  have:gB i c=false:=by simpa [zmo] using h
  rw [qcc (by rw [this];decide)];simp;omega
theorem runS_mem (i:Int) (b:UInt8) (r:List UInt8):∀ x∈r.take (runS i (b::r)-1),gB i x=true:=by
 have e:runS i (b::r)-1=(r.takeWhile (gB i)).length:=by show 1+_-1=_;omega
 rw [e];intro x d;have:r.take (r.takeWhile (gB i)).length=r.takeWhile (gB i):=((List.prefix_iff_eq_take).1 (List.takeWhile_prefix (gB i))).symm;rw [this] at d;exact qbv.1 List.all_takeWhile x d
theorem runS_stops (i:Int) (b:UInt8) (r:List UInt8):zmo i ((b::r).drop (runS i (b::r)))=true:=by
 have e:runS i (b::r)=(r.takeWhile (gB i)).length+1:=by show 1+_=_;omega
 rw [e,List.drop_succ_cons];clear e;induction r with
 | nil=>rfl
 | cons c t n=>
  by_cases d:gB i c=true
  ·rw [qcb d,qbe,List.drop_succ_cons];exact n
  rw [qcc d];show (!gB i c)=true;simpa using d
theorem ztk (i:Int) (x:ByteArray) (t:S49) (n:Nat) (h:finS i x = .inr (t,n)):n=x.size:=by
 unfold finS at h
 repeat' (first|(cases h;done)|(obtain ⟨_,rfl⟩:=Prod.mk.inj (Sum.inr.inj h);rfl)|(split at h))
def inS (u:List UInt8):Int:=match u with|[]=>0|b::_=>zbc (b.toNat:Int)
theorem tok_stops (u:List UInt8) (t:S49) (n:Nat) (h:tokS u = .inr (t,n)) (e:inS u≠6):zmo (inS u) (u.drop n)=true:=by
 match u with
 | []=>cases h
 | b::r=>
  have o:inS (b::r)=zbc (b.toNat:Int):=rfl;rw [o] at e ⊢;simp only [tokS] at h;rw [if_neg e] at h;by_cases d:zbc (b.toNat:Int)=0
  ·rw [if_pos d] at h;cases h
  rw [if_neg d] at h;have hn:=ztk _ _ _ _ h;rw [zdk,qbq,Nat.min_eq_left (zin _ _)] at hn;rw [hn];exact runS_stops _ b r
theorem tok_stable (u v:List UInt8) (t:S49) (n:Nat) (h:tokS u = .inr (t,n)) (hs:inS u≠6->zmo (inS u) v=true):0<n/\n<=u.length/\tokS (u.take n++v) = .inr (t,n):=by
 match u with
 | []=>cases h
 | b::r=>
  have y:inS (b::r)=zbc (b.toNat:Int):=rfl;rw [y] at hs;simp only [tokS] at h;by_cases d:zbc (b.toNat:Int)=6
  ·rw [if_pos d] at h
   match s:qdS r with
   | none=>rw [s] at h;cases h
   | some (o,m)=>
    rw [s] at h;dsimp only at h;by_cases hh:o.length<=200
    ·rw [if_pos hh] at h;obtain ⟨rfl,rfl⟩:=Prod.mk.inj (Sum.inr.inj h);obtain ⟨h1,A,x⟩:=zsw r.length r o m (qad _) s;refine ⟨kab,kbl,?_⟩;rw [qby,List.cons_append];simp only [tokS];rw [if_pos d,x v];dsimp only;rw [if_pos hh]
    rw [if_neg hh] at h;cases h
  rw [if_neg d] at h;by_cases p:zbc (b.toNat:Int)=0
  ·rw [if_pos p] at h;cases h
  rw [if_neg p] at h;have q:=zin (zbc (b.toNat:Int)) (b::r);have B:=zkw (zbc (b.toNat:Int)) b r;have hn:=ztk _ _ _ _ h;rw [zdk,qbq,Nat.min_eq_left q] at hn;refine ⟨kab,kab,?_⟩;obtain ⟨m,e⟩:∃ m,n=m+1:=⟨n-1,kab⟩;have w:=runS_mem (zbc (b.toNat:Int)) b r;rw [<-hn,e,Nat.add_sub_cancel] at w;have z:runS (zbc (b.toNat:Int)) (b::(r.take m++v))=n:=by
   rw [zrl _ b (r.take m) v (hs d) w];rw [qbe,qbq,e];rw [qbe] at q;omega
  rw [e,qby,List.cons_append];simp only [tokS];rw [if_neg d,if_neg p,z];rw [<-hn,e,qby] at h;rw [e,qby,List.take_append_of_le_length (by rw [qbq];rw [qbe] at q;omega),List.take_take,Nat.min_self];exact h
end
section
theorem zlh (u:List UInt8) (t:S49) (n:Nat) (h:tokS u = .inr (t,n)):0<n/\n<=u.length:=by
 have:=tok_stable u (u.drop n) t n h (fun d=>tok_stops u t n h d);exact ⟨this.1,this.2.1⟩
theorem tok_err (u:List UInt8) (e:Int) (h:tokS u = .inl e):e=80\/e=81\/e=82\/e=83:=by
 unfold tokS at h;split at h
 ·cases h;omega
 split at h
 ·split at h
  ·split at h
   ·cases h
   cases h;omega
  cases h;omega
 split at h
 ·cases h;omega
 unfold finS at h
 repeat' (first|(split at h)|(cases h;omega)|cases h)
theorem scanS_fuel:∀ (d d':Nat) (u:List UInt8) (p:Nat),u.length<d->u.length<d'->zgf d u p=zgf d' u p:=by
 intro d;induction d with
 | zero=>intro d' u p h;omega
 | succ d o=>
  intro d' u p h q;obtain ⟨d',rfl⟩:∃ m,d'=m+1:=⟨d'-1,kab⟩
  match u with
  | []=>rfl
  | b::r=>
   simp only [zgf]
   match ht:tokS (b::r) with
   | .inl e=>rfl
   | .inr (t,n)=>
    have:=zlh _ _ _ ht;simp only;rw [o d' _ _ (by rw [qbr];omega) (by rw [qbr];omega)]
def zhe (u:List UInt8) (p:Nat):(Int×Nat) ⊕ List S49:=zgf (u.length+1) u p
def addT (ts:List S49):(Int×Nat) ⊕ List S49->(Int×Nat) ⊕ List S49
 | .inl x => .inl x
 | .inr l => .inr (ts++l)
theorem zsj (x):addT [] x=x:=by cases x<;>rfl
theorem scanU_nil (p:Nat):zhe [] p = .inr [endS p]:=rfl
theorem scanU_err (u:List UInt8) (p:Nat) (e:Int) (hu:u≠[]) (h:tokS u = .inl e):zhe u p = .inl (e,p):=by
 match u with
 | []=>exact absurd rfl hu
 | b::r=>unfold zhe;rw [qbe,zgf,h]
theorem zlm (u:List UInt8) (p:Nat) (t:S49) (n:Nat) (h:tokS u = .inr (t,n)):zhe u p=addT (if t.f0=0 then [] else [atS t p]) (zhe (u.drop n) (p+n)):=by
 have d:=zlh _ _ _ h
 match u with
 | []=>cases h
 | b::r=>
  unfold zhe;rw [qbe,zgf,h];simp only;rw [scanS_fuel (r.length+1) (((b::r).drop n).length+1) _ _ (by rw [qbr,qbe];omega) kab];cases zgf (((b::r).drop n).length+1) ((b::r).drop n) (p+n) with
  | inl x=>rfl
  | inr l=>
   simp only [addT];split<;>rfl
end
section
def zex (W:World) (b:Nat):List S62->List Value->List Nat->Prop
 | [],cs,L=>cs=[]/\L=[]
 | x::r,cs,L=>∃ t ts M N,Tree W b x.f2 t M/\zex W b r ts N/\cs=(([Value.int .i64 x.f0,Value.string x.f1]:List Value)++t++[Value.int .i64 x.f3])++ts/\L=M++N
section
variable {W w1:World} {b:Nat}
theorem zex.lt:∀ {l:List S62} {cs:List Value} {L:List Nat},zex W b l cs L->∀ g∈L,b<=g/\g<W.heap.size
 | [],_,_,⟨_,h⟩,g,hg=>by subst h;cases hg
 | x::r,_,_,⟨t,ts,M,N,h1,d,_,h⟩,g,hg=>by
  subst h;rcases qbi.1 hg with hg|hg
  ·exact h1.lt g hg
  exact zex.lt d g hg
theorem zex.frame:∀ {l:List S62} {cs:List Value} {L:List Nat},zex W b l cs L->(∀ g∈L,w1.heap[g]?=W.heap[g]?)->zex w1 b l cs L
 | [],_,_,h,_=>h
 | x::r,_,_,⟨t,ts,M,N,h1,d,e,h⟩,hh=>by
  subst h;exact ⟨t,ts,M,N,h1.frame fun g hg=>hh g (qbi.2 (.inl hg)),zex.frame d fun g hg=>hh g (qbi.2 (.inr hg)),e,rfl⟩
theorem zex.length:∀ {l:List S62} {cs:List Value} {L:List Nat},zex W b l cs L->cs.length=l.length*11
 | [],_,_,⟨h,_⟩=>by subst h;rfl
 | x::r,_,_,⟨t,ts,M,N,h1,n,o,_⟩=>by
  subst o;have d:=h1.length;have e:=zex.length n;simp only [qal,qbe,List.length_nil,d,e];omega
theorem zex.snoc:∀ {l:List S62} {cs:List Value} {L:List Nat} {x:S62} {t:List Value} {M:List Nat},zex W b l cs L->Tree W b x.f2 t M->zex W b (l++[x]) (cs++(([Value.int .i64 x.f0,Value.string x.f1]:List Value)++t++[Value.int .i64 x.f3])) (L++M)
 | [],_,_,x,t,M,⟨h1,d⟩,k=>by
  subst h1;subst d;exact ⟨t,[],M,[],k,⟨rfl,rfl⟩,by simp,by simp⟩
 | y::r,_,_,x,t,M,⟨o,ts,e,N,h1,d,n,h⟩,k=>by
  subst n;subst h;exact ⟨o,_,e,_,h1,zex.snoc d k,by simp [qbl],by simp [qbl]⟩
theorem zex.lower {b':Nat} (d:b'<=b):∀ {l:List S62} {cs:List Value} {L:List Nat},zex W b l cs L->zex W b' l cs L
 | [],_,_,h=>h
 | x::r,_,_,⟨t,ts,M,N,h1,e,n,h⟩=>⟨t,ts,M,N,h1.lower d,zex.lower d e,n,h⟩
end
def Pol (W:World) (b:Nat) (l:List S62) (v:Value):Prop:=
 ∃ cells L,Row W b 62 11 v l.length cells/\zex W b l cells L/\L.Nodup/\∀ g,v.ownBlock=some g->g∉L
theorem Pol.nil (W:World) (b:Nat):Pol W b [] (.slice none 0 0):=⟨[],[],Row.nil _ _ _ _,⟨rfl,rfl⟩,List.nodup_nil,fun g _ h=>by cases h⟩
def zik (t:S49):Tok:=⟨t.f0,t.f1,t.f2,t.f3.f0,t.f3.f1,t.f4⟩
def zfa (s:ByteArray):List S62×Int×Int:=
 if (zcr s).2.1≠0 then ([],(zcr s).2.1,(zcr s).2.2)
 else match zio ((zcr s).1.map zik) with
  | some (.ok x _)=>(x,0,0)
  | some (.bad e p)=>([],e,p)
  | none=>([],0,0)
theorem zmy:∀ (d:Nat) (u:List UInt8) (p:Nat) (l:List S49),zgf d u p = .inr l->∃ r q,l=r++[endS q]/\r.length<=u.length
 | 0,_,_,_,h=>by cases h
 | _+1,[],p,_,h=>by cases h;exact ⟨[],p,rfl,qad _⟩
 | d+1,b::r,p,l,h=>by
  simp only [zgf] at h;split at h
  ·cases h
  rename_i t n ht;have hn:=zlh (b::r) t n ht;split at h
  ·cases h
  rename_i ts w;obtain ⟨o,q,e,s⟩:=zmy d _ _ ts w;rw [qbr] at s;have h:=Sum.inr.inj h;split at h
  ·exact ⟨o,q,by rw [<-h];exact e,kab⟩
  exact ⟨atS t p::o,q,by rw [<-h,e];rfl,by rw [qbe];omega⟩
theorem zpe:∀ (d:Nat) (u:List UInt8) (p:Nat) (e:Int) (q:Nat),u.length<d->zgf d u p = .inl (e,q)->e≠0
 | 0,_,_,_,_,hd,_=>by omega
 | _+1,[],_,_,_,_,h=>by cases h
 | d+1,b::r,p,e,q,hd,h=>by
  simp only [zgf] at h;split at h
  ·rename_i e' ht;have h1:=tok_err _ _ ht;have h:=Sum.inl.inj h;injection h with s w;omega
  rename_i t n ht;have hn:=zlh (b::r) t n ht;split at h
  ·rename_i x o;have h:=Sum.inl.inj h;subst h;exact zpe d _ _ _ _ (by rw [qbr];omega) o
  cases h
theorem zgk (s:ByteArray) (h:(zcr s).2.1=0):∃ r q,(zcr s).1=r++[endS q]/\(zcr s).1.length<=8001:=by
 unfold zcr at h ⊢;by_cases hs:s.size>8000
 ·rw [if_pos hs] at h;exact absurd h kad
 rw [if_neg hs] at h ⊢
 match d:zgf (s.size+1) (bl s) 0 with
 | .inl (e,p)=>
  rw [d] at h;exact absurd h (zpe _ _ _ _ _ (by rw [zbm];omega) d)
 | .inr l=>
  obtain ⟨r,q,n,u⟩:=zmy _ _ _ _ d;have o:=zbm s;refine ⟨r,q,by simp [zpf,n],?_⟩;simp only [zpf,List.nil_append,n,qal,qbe,List.length_nil];omega
theorem catch_idle (p q r:Addr) (w:World) :
  CallsD prog 27 #[.pointer (some p),.pointer (some q),.pointer (some r)] .returning w fun e n w'=>e = .returned (.tuple #[])/\n = .returning/\w'=w:=by
 refine callsD_of_wpS func27 rfl fun d cs hu=>?_;apply wpS_seq;apply wpS_region;simp [wpOpsS,go_sem,recoverD,hu,ntmps27,Exit.thenS];refine wpS_of_wp ?_;go_wp2;cases d
 simp_all [bodyPostS,results,Tryz.results27,Exit.thenS]
theorem run_typeAssert_struct {P:Program} {t:TypeId} {fs} (h:P.underlying t=some (.struct fs)) (d:TypeId) (v:Value) (w:World):(Instr.typeAssert (.iface t v) d t true).run P w = .ok (.tuple #[v,.bool true]) w:=by
 simp [Instr.typeAssert,run_underlying h,Result.andThen]
theorem gate_assert {P:Program} {ops:Array Oper} {rest:List Oper} {a:Act} {Q:Exit->Act->World->Prop} {w:World} {d:Option Tmp} {x:Operand} {n t:TypeId} {ok:Bool} {ty:TypeId} {pos:String} {e} {g} (h:wpList P ops Q (⟨d,Op.typeAssert x n t ok,ty,pos,e,g⟩::rest) a w):wpList P ops Q (⟨d,Op.typeAssert x n t ok,ty,pos,e,g⟩::rest) a w:=h
theorem wpList_assert {P:Program} {ops:Array Oper} {rest:List Oper} {o:Oper} {a:Act} {Q:Exit->Act->World->Prop} {w:World} (hg:o.guard=none) (x:Operand) (d t:TypeId) (p:o.op=Op.typeAssert x d t true) {fs} (h:P.underlying t=some (.struct fs)) (v:Value) (q:a.eval x = .iface t v)
  (e:wpList P ops Q rest (a.put o.dst (.tuple #[v,.bool true])) w):wpList P ops Q (o::rest) a w:=by
 refine wpList_plain hg fun r n=>?_;have hr:=run_typeAssert_struct h d v w;unfold Oper.wp;simp [execOp,p,q,hr,Result.andThen];exact n _ _ e
theorem catch_panicking (p q r:Nat) (e at_:Int) (v:Value) (x y:Int) (z:List PanicEntry) (w:World) (d:w.heap[p]?=some (.cells #[v] 36 (0,0))) (n:w.heap[q]?=some (.cells #[.int .i64 x] 37 (0,0))) (s:w.heap[r]?=some (.cells #[.int .i64 y] 3 (0,0))) (J:p≠q) (L:p≠r) (M:q≠r) :
  CallsD prog 27 #[.pointer (some ⟨p,0,none⟩),.pointer (some ⟨q,0,none⟩),.pointer (some ⟨r,0,none⟩)] (.panicking (zho e at_::z)) w fun e' G w'=>
   e' = .returned (.tuple #[])/\G = .panicking ({ zho e at_ with recovered:=true }::z)/\∃ W1,Below w.heap.size w W1/\w'=((W1.setCell ⟨p,0,none⟩ (.slice none 0 0)).setCell ⟨q,0,none⟩ (.int .i64 e)).setCell ⟨r,0,none⟩ (.int .i64 at_):=by
 refine callsD_of_wpS func27 rfl fun I cs hu=>?_;apply wpS_seq;apply wpS_region;simp [wpOpsS,go_sem,recoverD,hu,ntmps27,Exit.thenS,zho];have E:∀ w:World,(binOp BinOp.eql 20 (.iface 70 (.agg #[.int .i64 e,.int .i64 at_])) .nilIface).run prog w = .ok (.bool false) w:=fun w=>by kernel_rfl
 refine wpS_of_wp ?_;show Code.wp _ _ _ ⟨#[.pointer (some ⟨p,0,none⟩),.pointer (some ⟨q,0,none⟩),.pointer (some ⟨r,0,none⟩),undef,undef,undef,.iface 70 (.agg #[.int .i64 e,.int .i64 at_]),undef,undef,undef,undef,undef,undef,undef,undef,undef,undef],[]⟩ _;have h1:=zam d;have B:=zam n;have D:=zam s;have a1:p≠w.heap.size:=kab;have a2:q≠w.heap.size:=kab;have a3:r≠w.heap.size:=kab;have hp:=zab (zaf d (.cells #[.int .i64 e,.int .i64 at_] 70)) 0;have u:=zab (zaf n (.cells #[.int .i64 e,.int .i64 at_] 70)) 0;have hr:=zab (zaf s (.cells #[.int .i64 e,.int .i64 at_] 70)) 0;have fp:=zac (zaf d (.cells #[.int .i64 e,.int .i64 at_] 70)) 0;have A:=zac (zaf n (.cells #[.int .i64 e,.int .i64 at_] 70)) 0;have fr:=zac (zaf s (.cells #[.int .i64 e,.int .i64 at_] 70)) 0;simp only [qaj,qag] at hp u hr;go_wp2_with ((with_reducible refine gate_assert ?_);refine wpList_assert rfl _ _ _ rfl underlying70 _ rfl ?_);have HB:=zq (((qan w.heap.size w).alloc (qad _) (.cells #[.int .i64 e,.int .i64 at_] 70)).drew);clear h1 B D d n s;go_region;all_goals (try go_wp2)
 clear hp u hr fp A fr E;all_goals (simp [bodyPostS,results,Tryz.results27,Exit.thenS])
 all_goals exact ⟨_,HB.o,rfl⟩
def zkt (W:World) (l:List S62) (d at_:Int) (e:Ending) (W':World):Prop:=
 ∃ v,e = .returned (.tuple #[.agg #[v],.int .i64 d,.int .i64 at_])/\Pol W' W.heap.size l v/\Below W.heap.size W W'
theorem zsm {W:World} {b:Nat} {ok:Nat->Prop} {v:Value} {l:List S49} (h:Kd.R k49 49 W b ok v l) (L:0<l.length):∃ T c,v = .slice (some ⟨T,0,none⟩) (l.map zik).length c/\b<=T/\Toks W T (l.map zik):=by
 obtain ⟨T,c,z,J,X,cells,w⟩:=Kd.R_form h L;refine ⟨T,c,by rw [qci];exact z,J,cells,w,fun j t y r hr=>?_⟩;obtain ⟨A,c',B,U,G⟩:=Kd.R_reads h;rw [z] at B;injection B with E;subst E;rw [List.getElem?_map] at y;obtain ⟨x,D,rfl⟩:=qbu.1 y;have O:j<l.length:=(qav.1 D).1;obtain ⟨ad,u,d,e,n,p,q,s⟩:=at_T49 G (j:Int) kab kab;have u:=qaa u;subst u;have M:zkl l (j:Int)=x:=by
  unfold zkl;rw [qax,qat,D];rfl
 rw [M,qax] at d e n p q s;have I:∀ o,(⟨T,0,none⟩:Addr).add o=⟨T,o,none⟩:=fun o=>by unfold Addr.add;split<;>simp_all
 simp only [I] at d e n p q s;rw [zab w] at d e n p q s;have:r=0\/r=1\/r=2\/r=3\/r=4\/r=5:=kab;rcases this with rfl|rfl|rfl|rfl|rfl|rfl
 ·exact d
 ·exact e
 ·exact n
 ·exact p
 ·exact q
 exact s
theorem zme {l r:List S49} {q:Nat} (h:l=r++[endS q]):∀ k,k<(l.map zik).length->(tk (l.map zik) k).kind≠8->k+1<(l.map zik).length:=by
 intro k hk d;rw [qci] at hk ⊢;have n:l.length=r.length+1:=by rw [h];simp
 by_cases e:k=r.length
 ·exfalso;apply d;unfold tk;rw [qat,List.getElem?_map,h,e,qbd (qad _),Nat.sub_self];rfl
 omega
theorem zhg {P:Program} {w:World} {ty:TypeId} {k:IntKind} {a:Addr} {v:Value} (hu:P.underlying ty=some (.int k)) (d:w.cell? a=some v):(loadVar ty a).run P w = .ok v w:=by
 simp [loadVar,isAgg,run_underlying hu,go_sem,d,Result.andThen]
theorem zgt {w:World} {p q r:Nat} {v x y:Value} {tmps:Array Value} (o:tmps[2]?=some (.pointer (some ⟨p,0,none⟩))) (s:tmps[3]?=some (.pointer (some ⟨q,0,none⟩))) (u:tmps[4]?=some (.pointer (some ⟨r,0,none⟩)))
  (d:w.heap[p]?=some (.cells #[v] 36 (0,0))) (e:w.heap[q]?=some (.cells #[x] 37 (0,0))) (n:w.heap[r]?=some (.cells #[y] 3 (0,0))) :
  (results Tryz.f11 tmps).run prog w = .ok (.tuple #[.agg #[v],x,y]) w:=by
 have c2:w.cell? ⟨q,0,none⟩=some x:=zab e 0;have c3:w.cell? ⟨r,0,none⟩=some y:=zab n 0;have l1:=run_loadVar_row (P:=prog) w p 36 36 #[v] (0,0) _ d underlying36 rfl kae;have l2:=zhg (P:=prog) underlying37 c2;have l3:=zhg (P:=prog) underlying3 c3;have hr:Tryz.f11.results=#[.cell 2 36,.cell 3 37,.cell 4 3]:=rfl;simp [results,hr,o,s,u,asAddr,l1,l2,l3]
theorem parse_scan (s:ByteArray) (W:World) (x:Inv W) (hf:(zcr s).2.1≠0) :
  Calls prog 11 #[.string s] W (zkt W [] (zcr s).2.1 (zcr s).2.2):=by
 have q:=(((qan W.heap.size W).alloc (qad _) (.cells #[.slice none 0 0] 36)).alloc (by simp) (.cells #[.int .i64 0] 37)).alloc kbl (.cells #[.int .i64 0] 3);have E:=zq (lex_Scan.calls 18000 s (zcr s).1 (zcr s).2.1 (zcr s).2.2 _ (Inv.below x q) (zss s 18000 (qad _)));have b1:=zaf (zaf (qab W (.cells #[.slice none 0 0] 36)) (.cells #[.int .i64 0] 37)) (.cells #[.int .i64 0] 3);have b2:=zaf (qab (W.alloc (.cells #[.slice none 0 0] 36)) (.cells #[.int .i64 0] 37)) (.cells #[.int .i64 0] 3);have b3:=qab ((W.alloc (.cells #[.slice none 0 0] 36)).alloc (.cells #[.int .i64 0] 37)) (.cells #[.int .i64 0] 3);rw [qae] at b2;rw [qae,qae] at b3;have r:=zq q;have e:=zq b1;have n:=zq b2;have B3:=zq b3;clear q b1 b2 b3 x;have X:∀ (fn:Fn) (first cap:Array Value) (w:World),(Instr.makeFunc fn first cap).run prog w = .ok (.func fn first cap) w:=fun _ _ _ _=>rfl
 go_enter_defers func11,ntmps11
 go_wp2_with (go_at_call 16;refine E.o.mono ?_;rintro u w1 ⟨v0,rfl,y,d⟩;have c1:=zab (zaq e.o d) 0;have c2:=zab (zaq n.o d) 0;have c3:=zab (zaq B3.o d) 0;have f1:=zac (zaq e.o d) 0;have f2:=zac (zaq n.o d) 0;have f3:=zac (zaq B3.o d) 0;simp only [qaj,qag] at c1 c2 c3;have D:=zq (r.o.trans (d.mono r.o.size));obtain ⟨U,Y,rfl⟩:=Kd.R_slice y;have z:=zq (zaq e.o d);have A:=zq (zaq n.o d);have B:=zq (zaq B3.o d);clear y d);have u:_=some (Obj.cells #[.slice none 0 0] 36 (0,0)):=zan z.o 0 (.slice none 0 0) rfl;have G:=zav (p:=⟨W.heap.size,0,none⟩) A.o (by show W.heap.size+1≠W.heap.size;omega) (.slice none 0 0);have I:=zav (p:=⟨W.heap.size,0,none⟩) B.o (by show W.heap.size+1+1≠W.heap.size;omega) (.slice none 0 0);have g1:=zav (p:=⟨W.heap.size+1,0,none⟩) u (by show W.heap.size≠W.heap.size+1;omega) (.int .i64 (zcr s).2.1);have g2:_=some (Obj.cells #[.int .i64 (zcr s).2.1] 37 (0,0)):=zan G 0 (.int .i64 (zcr s).2.1) rfl;have g3:=zav (p:=⟨W.heap.size+1,0,none⟩) I (by show W.heap.size+1+1≠W.heap.size+1;omega) (.int .i64 (zcr s).2.1);have L:=zav (p:=⟨W.heap.size+1+1,0,none⟩) g1 (by show W.heap.size≠W.heap.size+1+1;omega) (.int .i64 (zcr s).2.2);have M:=zav (p:=⟨W.heap.size+1+1,0,none⟩) g2 (by show W.heap.size+1≠W.heap.size+1+1;omega) (.int .i64 (zcr s).2.2);have O:_=some (Obj.cells #[.int .i64 (zcr s).2.2] 3 (0,0)):=zan g3 0 (.int .i64 (zcr s).2.2) rfl;have J:=(((D.o.setCell (p:=⟨W.heap.size,0,none⟩) (qad _) (.slice none 0 0)).setCell (p:=⟨W.heap.size+1,0,none⟩) (by show W.heap.size<=W.heap.size+1;omega) (.int .i64 (zcr s).2.1)).setCell (p:=⟨W.heap.size+1+1,0,none⟩) kav (.int .i64 (zcr s).2.2));exact ⟨_,zgt rfl rfl rfl L M O,_,rfl,Pol.nil _ _,J⟩
end
section
structure PInv (W:World) (g T c:Nat) (toks:List Tok) (i:Nat) (l:List S62) (v:Value) (W':World):Prop where
 st:PSt W' g T c toks i
 bel:Below W.heap.size W W'
 pol:W'.heap[W.heap.size]?=some (.cells #[v] 36 (0,0))
 err:W'.heap[W.heap.size+1]?=some (.cells #[.int .i64 0] 37 (0,0))
 num:W'.heap[W.heap.size+1+1]?=some (.cells #[.int .i64 0] 3 (0,0))
 row:Pol W' (g+1) l v
 far:W.heap.size+3<=T/\T<g
 here:i<toks.length
 many:l.length<=100
section
variable {W W1 W2:World} {g T c i j:Nat} {toks:List Tok} {l:List S62} {v:Value}
theorem Pol.frame {b:Nat} (h:Pol W b l v) (hh:∀ k,b<=k->k<W.heap.size->W1.heap[k]?=W.heap[k]?):Pol W1 b l v:=by
 obtain ⟨cells,L,h1,d,e,n⟩:=h;exact ⟨cells,L,h1.frame fun g hg=>hh g (h1.blk hg).1 (h1.blk hg).2.1,d.frame fun g hg=>hh g (d.lt g hg).1 (d.lt g hg).2,e,n⟩
theorem Pol.lower {b b':Nat} (d:b'<=b) (h:Pol W b l v):Pol W b' l v:=by
 obtain ⟨cells,L,h1,e,n,o⟩:=h;exact ⟨cells,L,h1.lower d,e.lower d,n,o⟩
theorem PInv.move (h:PInv W g T c toks i l v W1) (e:PSt W2 g T c toks j) (hF:Fr W1 W2 (·=g)) (n:j<toks.length):PInv W g T c toks j l v W2:=by
 have o:=h.far;exact ⟨e,hF.below (fun k hk=>by omega) h.bel.size h.bel,hF.blk h.pol kab,hF.blk h.err kab,hF.blk h.num kab,h.row.frame fun k h1 d=>hF.block k d kab,h.far,n,h.many⟩
theorem PInv.snoc {x:S62} {cs cells:List Value} {L M:List Nat} {v1:Value} {w1:World} (h:PInv W g T c toks i l v W2) (hl:l.length<100)
  (Y:Row W2 (g+1) 62 11 v l.length cells) (hit:zex W2 (g+1) l cells L) (w:∀ b,v.ownBlock=some b->b∉L) (U:L.Nodup) {s:Nat} (J:g+1<=s) (B:∀ k∈L,k<s) (y:∀ b,v.ownBlock=some b->b<s)
  (q:Tree W2 s x.f2 cs M) (D:M.Nodup)
  (X:Row w1 (g+1) 62 11 v1 (l.length+1) (cells++(([Value.int .i64 x.f0,Value.string x.f1]:List Value)++cs++[Value.int .i64 x.f3]))) (u:W2.grownBy w1 v.ownBlock) (d:v1.ownBlock=v.ownBlock\/v1.ownBlock=some (W2.heap.size+1)) (a1:v1.ownBlock≠none) :
  PInv W g T c toks i (l++[x]) v1 (w1.setCell ⟨W.heap.size,0,none⟩ v1):=by
 have ad:=h.far;have z:∀ b,v.ownBlock=some b->g+1<=b:=fun b n=>(Y.blk n).1;have far:∀ k,k<W2.heap.size->v.ownBlock≠some k->w1.heap[k]?=W2.heap[k]?:=fun k hk hn=>u.block k hk (fun e=>hn e.symm);have r:∀ k,k<W2.heap.size->k<=g->w1.heap[k]?=W2.heap[k]?:=fun k hk af=>far k hk fun e=>by have:=z k e;omega
 have O:=h.st.lts.1;have G:=h.st.lts.2.1;have A:Fr W2 w1 (fun k=>some k=v.ownBlock):=Fr.of_grown u (fun k hk=>hk.symm);have E:Pol w1 (g+1) (l++[x]) v1:=by
  refine ⟨_,L++M,by rw [qal];exact X,zex.snoc (hit.frame fun k hk=>far k (hit.lt k hk).2 fun e=>w k e hk) (Tree.lower J (q.frame fun k hk=>far k (q.lt k hk).2 fun e=>?_)),?_,?_⟩
  ·have:=y k e;have:=(q.lt k hk).1;omega
  ·rw [List.nodup_append];refine ⟨U,D,fun a I b n e=>?_⟩;have:=B a I;have:=(q.lt b n).1;omega
  intro b n o;rcases qbi.1 o with o|o
  ·rcases d with d|d
   ·exact w b (d ▸ n) o
   have h1:=(hit.lt b o).2;rw [n] at d;have:=qaa d;omega
  rcases d with d|d
  ·have:=y b (d ▸ n);have:=(q.lt b o).1;omega
  have h1:=(q.lt b o).2;rw [n] at d;have:=qaa d;omega
 have hw:W.heap.size<=w1.heap.size:=qas h.bel.size u.size;refine ⟨(h.st.blk (r g O (qad _)) (r T G kab)).far (by show g≠W.heap.size;omega) (by show T≠W.heap.size;omega) _,(A.below (fun k hk=>by have:=z k hk.symm;omega) h.bel.size h.bel).setCell (p:=⟨W.heap.size,0,none⟩) (qad _) _,
  zan ((r _ (zam h.pol) kab).trans h.pol) 0 v1 rfl,zav ((r _ (zam h.err) kab).trans h.err) (by show W.heap.size+1≠W.heap.size;omega) _,zav ((r _ (zam h.num) kab).trans h.num) (by show W.heap.size+1+1≠W.heap.size;omega) _,
  E.frame fun k h1 Z=>qbn w1 _ _ k (by show k≠W.heap.size;omega),h.far,h.here,kbl⟩
theorem PInv.facts (h:PInv W g T c toks i l v W1):W1.cell? ⟨W.heap.size,0,none⟩=some v/\W1.cell? ⟨W.heap.size+1,0,none⟩=some (.int .i64 0)/\W1.cell? ⟨W.heap.size+1+1,0,none⟩=some (.int .i64 0)/\W1.frozen? ⟨W.heap.size,0,none⟩=false/\W1.frozen? ⟨W.heap.size+1,0,none⟩=false/\W1.frozen? ⟨W.heap.size+1+1,0,none⟩=false:=
 ⟨zab h.pol 0,zab h.err 0,zab h.num 0,zac h.pol 0,zac h.err 0,zac h.num 0⟩
theorem zhi {tmps:Array Value} {e p:Int} (s:tmps[2]?=some (.pointer (some ⟨W.heap.size,0,none⟩))) (u:tmps[3]?=some (.pointer (some ⟨W.heap.size+1,0,none⟩))) (w:tmps[4]?=some (.pointer (some ⟨W.heap.size+1+1,0,none⟩)))
  (n:Below W.heap.size W W1) (b1:W1.heap[W.heap.size]?=some (.cells #[v] 36 (0,0))) (b2:W1.heap[W.heap.size+1]?=some (.cells #[.int .i64 0] 37 (0,0))) (b3:W1.heap[W.heap.size+1+1]?=some (.cells #[.int .i64 0] 3 (0,0))) :
  Leaves prog Tryz.f11 tmps (zkt W [] e p) [{ target := .fn (.func 27) #[.pointer (some ⟨W.heap.size,0,none⟩),.pointer (some ⟨W.heap.size+1,0,none⟩),.pointer (some ⟨W.heap.size+1+1,0,none⟩)],args:=#[] }] (.panicking [zho e p]) W1:=by
 refine leaves_cons (f:=27) (args:=#[.pointer (some ⟨W.heap.size,0,none⟩),.pointer (some ⟨W.heap.size+1,0,none⟩),.pointer (some ⟨W.heap.size+1+1,0,none⟩)]) (by simp) (by simp [go_sem]) ?_;refine (catch_panicking W.heap.size (W.heap.size+1) (W.heap.size+1+1) e p v 0 0 [] W1 b1 b2 b3 kab kab kab).mono ?_;rintro e' B w' ⟨rfl,rfl,W2,d,rfl⟩;have d1:=zaq b1 d;have d2:=zaq b2 d;have d3:=zaq b3 d;have o:_=some (Obj.cells #[.slice none 0 0] 36 (0,0)):=zan d1 0 (.slice none 0 0) rfl;have q:=zav (p:=⟨W.heap.size,0,none⟩) d2 (by show W.heap.size+1≠W.heap.size;omega) (.slice none 0 0);have r:=zav (p:=⟨W.heap.size,0,none⟩) d3 (by show W.heap.size+1+1≠W.heap.size;omega) (.slice none 0 0);have g1:=zav (p:=⟨W.heap.size+1,0,none⟩) o (by show W.heap.size≠W.heap.size+1;omega) (.int .i64 e);have g2:_=some (Obj.cells #[.int .i64 e] 37 (0,0)):=zan q 0 (.int .i64 e) rfl;have g3:=zav (p:=⟨W.heap.size+1,0,none⟩) r (by show W.heap.size+1+1≠W.heap.size+1;omega) (.int .i64 e);have y:=zav (p:=⟨W.heap.size+1+1,0,none⟩) g1 (by show W.heap.size≠W.heap.size+1+1;omega) (.int .i64 p);have z:=zav (p:=⟨W.heap.size+1+1,0,none⟩) g2 (by show W.heap.size+1≠W.heap.size+1+1;omega) (.int .i64 p);have A:_=some (Obj.cells #[.int .i64 p] 3 (0,0)):=zan g3 0 (.int .i64 p) rfl;have x:=((((n.trans (d.mono n.size)).setCell (p:=⟨W.heap.size,0,none⟩) (qad _) (.slice none 0 0)).setCell (p:=⟨W.heap.size+1,0,none⟩) (by show W.heap.size<=W.heap.size+1;omega) (.int .i64 e)).setCell (p:=⟨W.heap.size+1+1,0,none⟩) kav (.int .i64 p));exact ⟨_,zgt s u w y z A,_,rfl,Pol.nil _ _,x⟩
theorem parse_returned {tmps:Array Value} {R:Ending->World->Prop} {x:Value} (h:∃ x,(results Tryz.f11 tmps).run prog W1 = .ok x W1/\R (.returned x) W1) :
  Leaves prog Tryz.f11 tmps R [{ target := .fn (.func 27) #[.pointer (some ⟨W.heap.size,0,none⟩),.pointer (some ⟨W.heap.size+1,0,none⟩),.pointer (some ⟨W.heap.size+1+1,0,none⟩)],args:=#[] }] .returning W1:=by
 refine leaves_cons (f:=27) (args:=#[.pointer (some ⟨W.heap.size,0,none⟩),.pointer (some ⟨W.heap.size+1,0,none⟩),.pointer (some ⟨W.heap.size+1+1,0,none⟩)]) (by simp) (by simp [go_sem]) ?_;refine (catch_idle _ _ _ W1).mono ?_;rintro e' d w' ⟨rfl,rfl,rfl⟩;exact h
theorem Pol.clip {b cap:Nat} {A:Option Addr} (h:Pol W b l (.slice A l.length cap)):Pol W b l (.slice A l.length l.length):=by
 obtain ⟨cells,L,h1,d,e,n⟩:=h;exact ⟨cells,L,h1.clip,d,e,fun g hg=>n g (by cases A with
  | none=>simp [Value.ownBlock] at hg
  | some a=>exact hg)⟩
theorem parse_over {tmps:Array Value} {cap:Nat} {A:Option Addr} (h:PInv W g T c toks i l (.slice A l.length cap) W1) (q:tmps[2]?=some (.pointer (some ⟨W.heap.size,0,none⟩))) (r:tmps[3]?=some (.pointer (some ⟨W.heap.size+1,0,none⟩))) (s:tmps[4]?=some (.pointer (some ⟨W.heap.size+1+1,0,none⟩))) :
  Leaves prog Tryz.f11 tmps (zkt W l 0 0) [{ target := .fn (.func 27) #[.pointer (some ⟨W.heap.size,0,none⟩),.pointer (some ⟨W.heap.size+1,0,none⟩),.pointer (some ⟨W.heap.size+1+1,0,none⟩)],args:=#[] }] .returning
   ((((W1.setCell ⟨W.heap.size,0,none⟩ (.slice A l.length l.length)).setCell ⟨W.heap.size,0,none⟩ (.slice A l.length l.length)).setCell ⟨W.heap.size+1,0,none⟩ (.int .i64 0)).setCell ⟨W.heap.size+1+1,0,none⟩ (.int .i64 0)):=by
 have B:=h.far;have d:_=some (Obj.cells #[.slice A l.length l.length] 36 (0,0)):=zan h.pol 0 (.slice A l.length l.length) rfl;have e:_=some (Obj.cells #[.slice A l.length l.length] 36 (0,0)):=zan d 0 (.slice A l.length l.length) rfl;have n:=zav (p:=⟨W.heap.size,0,none⟩) (zav (p:=⟨W.heap.size,0,none⟩) h.err (by show W.heap.size+1≠W.heap.size;omega) (.slice A l.length l.length)) (by show W.heap.size+1≠W.heap.size;omega) (.slice A l.length l.length);have o:=zav (p:=⟨W.heap.size,0,none⟩) (zav (p:=⟨W.heap.size,0,none⟩) h.num (by show W.heap.size+1+1≠W.heap.size;omega) (.slice A l.length l.length)) (by show W.heap.size+1+1≠W.heap.size;omega) (.slice A l.length l.length);have g1:=zav (p:=⟨W.heap.size+1,0,none⟩) e (by show W.heap.size≠W.heap.size+1;omega) (.int .i64 0);have g2:_=some (Obj.cells #[.int .i64 0] 37 (0,0)):=zan n 0 (.int .i64 0) rfl;have g3:=zav (p:=⟨W.heap.size+1,0,none⟩) o (by show W.heap.size+1+1≠W.heap.size+1;omega) (.int .i64 0);have w:=zav (p:=⟨W.heap.size+1+1,0,none⟩) g1 (by show W.heap.size≠W.heap.size+1+1;omega) (.int .i64 0);have y:=zav (p:=⟨W.heap.size+1+1,0,none⟩) g2 (by show W.heap.size+1≠W.heap.size+1+1;omega) (.int .i64 0);have z:_=some (Obj.cells #[.int .i64 0] 3 (0,0)):=zan g3 0 (.int .i64 0) rfl;have u:=((((h.bel.setCell (p:=⟨W.heap.size,0,none⟩) (qad _) (.slice A l.length l.length)).setCell (p:=⟨W.heap.size,0,none⟩) (qad _) (.slice A l.length l.length)).setCell (p:=⟨W.heap.size+1,0,none⟩) (by show W.heap.size<=W.heap.size+1;omega) (.int .i64 0)).setCell (p:=⟨W.heap.size+1+1,0,none⟩) kav (.int .i64 0));refine parse_returned (x := .nilIface) ⟨_,zgt q r s w y z,_,rfl,?_,u⟩;refine Pol.lower (b:=g+1) kab (h.row.clip.frame fun k h1 _=>?_);rw [qbn _ _ _ k (by show k≠W.heap.size+1+1;omega),qbn _ _ _ k (by show k≠W.heap.size+1;omega),qbn _ _ _ k (by show k≠W.heap.size;omega),qbn _ _ _ k (by show k≠W.heap.size;omega)]
end
def ztb (Q:Exit->Act->World->Prop):Exit->Act->World->Prop
 | .panic _,_,_=>False
 | e,a,w=>Q e a w
theorem wp_noPanic {P:Program} {c:Code} {Q:Exit->Act->World->Prop} {a:Act} {w:World} (h:c.wp P (ztb Q) a w):c.wp P Q a w:=
 wp_mono h fun e a w h=>by
  cases e with
  | panic c=>exact h.elim
  | _=>exact h
theorem noPanic_mk {Q:Exit->Act->World->Prop} {a:Act} {w:World} (h:Q .normal a w):ztb Q .normal a w:=h
theorem zhl {P:Program} {fn:Func} {t1 t2:Array Value} {R:Ending->World->Prop} (hr:results fn t1=results fn t2):∀ (ds:List Deferred) (u:FrameMode) (w:World),Leaves P fn t1 R ds u w->Leaves P fn t2 R ds u w
 | [],.returning,w,h=>by unfold Leaves at h ⊢;rw [<-hr];exact h
 | [],.panicking c,w,h=>h
 | [],.run,w,h=>h
 | d::ds,u,w,⟨hu,n,cap,f,args,ht,hi,o⟩=>⟨hu,n,cap,f,args,ht,hi,o.mono fun e p w' h=>by
  cases e with
  | returned x=>exact zhl hr ds _ _ h
  | panicked c=>exact zhl hr ds _ _ h
  | outgrown=>exact h⟩
theorem parse_slots {t1 t2:Array Value} (d:t1[2]?=t2[2]?) (e:t1[3]?=t2[3]?) (n:t1[4]?=t2[4]?):results Tryz.f11 t1=results Tryz.f11 t2:=by
 have hr:Tryz.f11.results=#[.cell 2 36,.cell 3 37,.cell 4 3]:=rfl;simp [results,hr,d,e,n]
theorem zhh {a:Act} {o:Option Tmp} {v:Value} {R:Ending->World->Prop} {chain:List PanicEntry} {w:World} (p:∀ d:Nat,o=some d->5<=d) (h:bodyPostD prog Tryz.f11 R (.panic chain) (a.put o v) w):bodyPostD prog Tryz.f11 R (.panic chain) a w:=by
 cases o with
 | none=>exact h
 | some d=>
  have hd:(5:Nat)<=(d:Nat):=p d rfl;have e:∀ j:Nat,j<5->(a.put (some d) v).tmps[j]?=a.tmps[j]?:=fun j q=>by
   have n:¬(d:Nat)=j:=fun e=>(by rw [e] at hd;omega);show (a.tmps.setIfInBounds d v)[j]?=a.tmps[j]?;rw [Array.getElem?_setIfInBounds_ne n]
  exact zhl (parse_slots (e 2 kab) (e 3 kab) (e 4 kab)) _ _ _ h
end
section
def ParseE (W:World) (r:PR (List S62)):Ending->World->Prop:=match r with
 | .ok l _=>zkt W l 0 0
 | .bad e p=>zkt W [] e p
theorem item_many {toks:List Tok} {k n i:Nat} {x:S62} {j:Nat} (hn:n=100) (h:zfr toks k n i=some (.ok x j)):False:=by
 unfold zfr at h;split at h
 ·cases h
 rw [if_pos hn] at h;cases h
theorem parse_items (s:ByteArray) (W:World) (aS:Inv W) (hf:(zcr s).2.1=0) (res:PR (List S62)) (aG:zio ((zcr s).1.map zik)=some res) :
  Calls prog 11 #[.string s] W (ParseE W res):=by
 obtain ⟨rr,qq,aC,aX⟩:=zgk s hf;have aa:=zme aC;have aE:0<(zcr s).1.length:=by rw [aC];simp
 obtain ⟨toks,Z⟩:∃ toks,(zcr s).1.map zik=toks:=⟨_,rfl⟩;have aD:toks.length=(zcr s).1.length:=by rw [<-Z,qci]
 rw [Z] at aG aa;rw [<-aD] at aX;have bb:0<toks.length:=by rw [aD];exact aE
 have a8:=(((qan W.heap.size W).alloc (qad _) (.cells #[.slice none 0 0] 36)).alloc (by simp) (.cells #[.int .i64 0] 37)).alloc kbl (.cells #[.int .i64 0] 3);have aO:=zq (lex_Scan.calls 18000 s (zcr s).1 0 (zcr s).2.2 _ (Inv.below aS a8) (by rw [zss s 18000 (qad _),<-hf]));have b1:=zaf (zaf (qab W (.cells #[.slice none 0 0] 36)) (.cells #[.int .i64 0] 37)) (.cells #[.int .i64 0] 3);have b2:=zaf (qab (W.alloc (.cells #[.slice none 0 0] 36)) (.cells #[.int .i64 0] 37)) (.cells #[.int .i64 0] 3);have b3:=qab ((W.alloc (.cells #[.slice none 0 0] 36)).alloc (.cells #[.int .i64 0] 37)) (.cells #[.int .i64 0] 3);rw [qae] at b2;rw [qae,qae] at b3;have ad:=zq a8;have B1:=zq b1;have B2:=zq b2;have B3:=zq b3;have aN:=zq aG;have bd:=zq aa;have aJ:=zq aE;have aP:=zq Z;have HF:=zq hf;clear a8 b1 b2 b3 aS aG aa aE aC hf Z aD;have b5:∀ (fn:Fn) (first cap:Array Value) (w:World),(Instr.makeFunc fn first cap).run prog w = .ok (.func fn first cap) w:=fun _ _ _ _=>rfl;have b4:=zpa
 go_enter_defers func11,ntmps11
 go_wp2_with (go_at_call 16;refine aO.o.mono ?_;rintro e1 w1 ⟨v0,rfl,hR,n⟩;obtain ⟨T,c,hv,G,a6⟩:=zsm hR aJ.o;rw [aP.o] at hv a6;subst hv;rw [qae,qae,qae] at G;have HI:=zq (And.intro G (And.intro a6 (And.intro (zaq B1.o n) (And.intro (zaq B2.o n) (And.intro (zaq B3.o n) (ad.o.trans (n.mono ad.o.size)))))));clear hR n G a6);obtain ⟨G,⟨bq,a1,aV⟩,d1,d2,d3,hB⟩:=HI.o;have ae:=zq (PInv.mk (g:=w1.heap.size) (i:=0) (l:=[]) (v := .slice none 0 0) ⟨qab w1 (.cells #[.slice (some ⟨T,0,none⟩) toks.length c,.int .i64 0] 73),⟨bq,zaf a1 _,aV⟩,aX⟩ (hB.alloc hB.size _) (zaf d1 _) (zaf d2 _) (zaf d3 _) (Pol.nil _ _) ⟨kab,zam a1⟩ bb (by simp):PInv W w1.heap.size T c toks 0 [] (.slice none 0 0) (w1.alloc (.cells #[.slice (some ⟨T,0,none⟩) toks.length c,.int .i64 0] 73)));have aK:=zq (show zfb toks (5*toks.length+4) (toks.length+1) 0 []=some res from aN.o);clear HI G a1 aV d1 d2 d3 hB aO ad B1 B2 B3 aN aJ aP HF;go_loopg [24] (toks.length+1) (fun k x wr=>∃ y:Nat,∃ l:List S62,∃ v:Value,Zq (PInv W w1.heap.size T c toks y l v wr)/\Zq (zfb toks (5*toks.length+4) k y l=some res));case atStart=>exact ⟨0,[],_,ae,aK⟩
 case round=>
  clear ae aK bb;obtain ⟨y,l,v,HX,U⟩:=hrel;have hr:=U.o;cases gk with
  | zero=>exact absurd hr (by simp [zfb])
  | succ k=>
  unfold zfb at hr;clear U;have I:=HX.o.here;have bx:=HX.o.many;have D:=zq (fun W' h'=>zcv W' w1.heap.size T c toks y _ (zdp toks I) h');obtain ⟨cells,L,bc,hit,b0,br⟩:=HX.o.row;obtain ⟨A,cap,rfl,bv,-⟩:=bc.form;clear bc hit b0 br;have bu:l.length<=140737488355328:=kab;by_cases h8:(tk toks y).kind=8
  ·rw [if_pos h8] at hr;have hr:=qaa hr;subst hr;go_wp2_with (first
    | (go_at_call 28;refine (D.o _ HX.o.st).mono ?_;rintro e2 z ⟨rfl,n⟩;have ab:=zq (HX.o.move (HX.o.st.below n) (Fr.of_below n) I);obtain ⟨p1,p2,p3,z1,z2,z3⟩:=ab.o.facts;clear n D)
    | (go_at_call 30;refine (clip_item _ _ _ _ bv bu).mono ?_;rintro X B ⟨rfl,hw⟩;subst B))
   exact parse_over ab.o rfl rfl rfl
  rw [if_neg h8] at hr;cases hit:zfr toks (5*toks.length+4) l.length y with
  | none=>rw [hit] at hr;cases hr
  | some r=>
  rw [hit] at hr;have O:=zq (fun W' h'=>item_calls w1.heap.size T c toks bd.o W' _ l.length y r I bx h' hit);have bk:=zq hit;clear hit;cases r with
  | bad ke pe=>
   have hr:=qaa hr;subst hr;go_wp2_with (go_at_call 28;refine (D.o _ HX.o.st).mono ?_;rintro e2 z ⟨rfl,n⟩;have ab:=zq (HX.o.move (HX.o.st.below n) (Fr.of_below n) I);obtain ⟨p1,p2,p3,z1,z2,z3⟩:=ab.o.facts;clear n D);refine wp_region_any kae ?_;change wpAny _ _ _ _ _ _ _ (World.drew _);refine wpAny_take (i:=0) (v := .pointer (some ⟨W.heap.size,0,none⟩)) rfl kae kae kae (fun _ _ _ h=>zhh (fun d hd=>by cases hd;decide) h) (Or.inl ⟨by rfl,by intro w;go_simp⟩) ?_;refine wpAny_take (i:=2) (v := .pointer (some ⟨w1.heap.size,0,none⟩)) rfl kae kae kae (fun _ _ _ h=>zhh (fun d hd=>by cases hd;decide) h) (Or.inl ⟨by rfl,by intro w;go_simp⟩) ?_;refine wpAny_take (i:=3) (v := .pointer (some ⟨W.heap.size,0,none⟩)) rfl kae kae kae (fun _ _ _ h=>zhh (fun d hd=>by cases hd;decide) h) (Or.inl ⟨by rfl,by intro w;go_simp⟩) ?_;refine wpAny_ready (rs:=[1,4]) kae (by simp) ?_;refine AllReady.cons rfl (fun K p=>?_) (AllReady.cons rfl (fun K p=>?_) AllReady.nil)
   ·go_simp;refine p _ _ ?_;clear p K;refine wpAny_ready (rs:=[4]) kae (by simp) ?_;refine AllReady.cons rfl (fun K p=>?_) AllReady.nil;go_simp;refine p _ _ ?_;clear p K;refine wpAny_take (i:=5) (v := .int .i64 l.length) rfl kae kae kae (fun _ _ _ h=>zhh (fun d hd=>by cases hd;decide) h) (Or.inl ⟨by rfl,by intro w;go_simp⟩) ?_;refine wpAny_ready (rs:=[6]) kae (by simp) ?_;refine AllReady.cons rfl (fun K p=>?_) AllReady.nil;go_simp;go_at_call 29;refine (O.o _ ab.o.st.drew).mono ?_;rintro X B ⟨rfl,q⟩;have hF:=q.undrew;exact zhi rfl rfl rfl (hF.below (fun k hk=>by have:=ab.o.far;omega) ab.o.bel.size ab.o.bel) (hF.blk ab.o.pol kbx) (hF.blk ab.o.err kbx) (hF.blk ab.o.num kbx)
   go_simp;refine p _ _ ?_;clear p K;refine wpAny_take (i:=5) (v := .int .i64 l.length) rfl kae kae kae (fun _ _ _ h=>zhh (fun d hd=>by cases hd;decide) h) (Or.inl ⟨by rfl,by intro w;go_simp⟩) ?_;refine wpAny_ready (rs:=[1,6]) kae (by simp) ?_;refine AllReady.cons rfl (fun K p=>?_) (AllReady.cons rfl (fun K p=>?_) AllReady.nil)
   ·go_simp;refine p _ _ ?_;clear p K;refine wpAny_ready (rs:=[6]) kae (by simp) ?_;refine AllReady.cons rfl (fun K p=>?_) AllReady.nil;go_simp;go_at_call 29;refine (O.o _ ab.o.st.drew).mono ?_;rintro X B ⟨rfl,q⟩;have hF:=q.undrew;exact zhi rfl rfl rfl (hF.below (fun k hk=>by have:=ab.o.far;omega) ab.o.bel.size ab.o.bel) (hF.blk ab.o.pol kbx) (hF.blk ab.o.err kbx) (hF.blk ab.o.num kbx)
   go_simp;go_at_call 29;refine (O.o _ ab.o.st.drew).mono ?_;rintro X B ⟨rfl,q⟩;have hF:=q.undrew;exact zhi rfl rfl rfl (hF.below (fun k hk=>by have:=ab.o.far;omega) ab.o.bel.size ab.o.bel) (hF.blk ab.o.pol kbx) (hF.blk ab.o.err kbx) (hF.blk ab.o.num kbx)
  | ok x j=>
   have U:=zq hr;clear hr;go_wp2_with (go_at_call 28;refine (D.o _ HX.o.st).mono ?_;rintro e2 z ⟨rfl,n⟩;have ab:=zq (HX.o.move (HX.o.st.below n) (Fr.of_below n) I);obtain ⟨p1,p2,p3,z1,z2,z3⟩:=ab.o.facts;have aI:=zq (show w1.heap.size+1<=z.heap.size from zam ab.o.st.src);clear n D);have bz:l.length<100:=by
    by_cases h:l.length=100
    ·exact (item_many h bk.o).elim
    omega
   refine wp_noPanic ?_;go_region_law (first
    | (go_simp;go_at_call 29;refine (O.o _ (by first|exact ab.o.st|exact ab.o.st.drew)).mono ?_;rintro X B ⟨cs,M,rfl,a7,hS,q,hj,aT⟩;have hF:=q.undrew;obtain ⟨v3,v4,v5,v6,rfl,-,-,-,-,A3,n3,c3,A4,n4,c4,A5,n5,c5,A6,n6,c6,rfl,rfl,rfl,rfl⟩:=zax a7;have E:=zq (ab.o.move hS hF hj);obtain ⟨k1,k2,k3,t1,t2,t3⟩:=E.o.facts;have ka:=fun o=>zab (zaf E.o.pol o) 0;simp only [qaj,qag] at ka;obtain ⟨cells,L,Y,J,aY,aW⟩:=ab.o.row;have af:=zq (Y.fr hF fun g' bw e=>by have:=(Y.blk bw).1;omega);have bp:=zq (J.frame fun k hk=>hF.block k (J.lt k hk).2 (by have:=(J.lt k hk).1;omega));have av:=zq (And.intro aW (And.intro aY (And.intro (fun b n=>(J.lt b n).2:∀ b∈L,b<z.heap.size) (fun b n=>(Y.blk n).2.1:∀ b,(Value.slice A l.length cap).ownBlock=some b->b<z.heap.size))));have aQ:=zq (And.intro (show Tree B z.heap.size x.f2 _ M from a7) aT);have au:=zq (show z.heap.size<=B.heap.size from hF.size);clear a7 hS hF q hj aT Y J aY aW)
    | (refine zch (w1.heap.size+1) (by rfl) (.tmp 29) (.tmp 35) 34 62 (.agg zfz) 11 176 rfl rfl rfl rfl kad (.slice A l.length cap) l.length cells [.int .i64 x.f0,.string x.f1,.int .i64 x.f2.f0,.string x.f2.f1,.string x.f2.f2,.slice A3 n3 c3,.slice A4 n4 c4,.slice A5 n5 c5,.slice A6 n6 c6,.int .i64 x.f2.f7,.int .i64 x.f3] rfl rfl rfl ?aU af.o ?aB ?aM ?aL ?_;(case aU=>intro u hu;simp at hu;rcases hu with rfl|rfl|rfl|rfl|rfl|rfl|rfl|rfl|rfl|rfl|rfl<;>rfl);(case aB=>have:=au.o;have:=aI.o;omega);(case aM=>simp only [maxLen];omega);(case aL=>omega);intro v1 w4 aF aA ba aZ;have aR:=zq (PInv.snoc E.o bz af.o bp.o av.o.1 av.o.2.1 aI.o av.o.2.2.1 av.o.2.2.2 aQ.o.1 aQ.o.2 aF aA ba aZ);have aH:=(aA.block _ (zam E.o.pol) (fun e=>by have:=(af.o.blk e.symm).1;have:=E.o.far;omega)).trans E.o.pol;have x1:=zab aH 0;have x2:=zac aH 0;simp only [qaj,qag] at x1;obtain ⟨A9,c9,rfl,-,-⟩:=aF.form;clear aF aA ba aZ aH))
   (all_goals refine noPanic_mk ?_);(all_goals (try go_wp2));all_goals
    go_roundg k
    case measure=>omega
    case rel=>exact ⟨j,l++[x],_,by first|exact aR|exact ⟨aR.o.drew⟩,U⟩
end
section
theorem zip (s:ByteArray) (W:World) (d:Inv W):Calls prog 11 #[.string s] W (zkt W (zfa s).1 (zfa s).2.1 (zfa s).2.2):=by
 unfold zfa;by_cases hf:(zcr s).2.1=0
 ·rw [if_neg (fun h=>h hf)];obtain ⟨r,q,e,_⟩:=zgk s hf;obtain ⟨res,n⟩:=zje (zme e) (by rw [e];simp);have h:=parse_items s W d hf res n;rw [n];cases res<;>exact h
 rw [if_pos hf];exact parse_scan s W d hf
end
end Go.Proofs.YtjeekocidaogoaaGreatDoor.H
