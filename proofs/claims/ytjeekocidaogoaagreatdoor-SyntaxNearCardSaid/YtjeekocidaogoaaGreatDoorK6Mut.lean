import Derived.Test.YtjeekocidaogoaaGreatDoorK6Hx9
import Derived.Test.YtjeekocidaogoaaGreatDoorK6Atoms
import Derived.Test.YtjeekocidaogoaaGreatDoorK6Hx5
import Derived.Lib.LazyBuf
import Derived.Defers
import Derived.Recover
set_option linter.unusedVariables false
set_option linter.unusedSimpArgs false
set_option maxRecDepth 100000
set_option maxHeartbeats 8000000
open Go.Proofs.Tryz
namespace Go.Proofs.YtjeekocidaogoaaGreatDoor.H
open Go.RowKit Go.Proofs.YtjeekocidaogoaaGreatDoor.Hand Go.Proofs.YtjeekocidaogoaaGreatDoorW.PrintWords Go.Proofs.YtjeekocidaogoaaGreatDoorW.PrintLast Go.Proofs.YtjeekocidaogoaaGreatDoorW.PrintMore
section
theorem zch {a b:ByteArray} (h:a.toList=b.toList):a=b:=by
 rw [Go.Lib.toList_data,Go.Lib.toList_data] at h;cases a;cases b;simpa using h
theorem zrc.leaf {W:World} {g T c:Nat} {toks:List Tok} {r:PR S60} {e:Ending} {W':World} (h:zrc W g T c toks r e W') (n:∀ x j,r = .ok x j->x.f6=[]):zjn W g T c toks (r.bind fun x j => .ok (x,1) j) e W':=by
 cases r with
 | bad k p=>exact h
 | ok x j=>
  obtain ⟨cs,L,q,d,o,hF,s⟩:=h;exact ⟨cs,L,q,d,o,hF,s,zky (n x j rfl),by show 1<=16;decide,d.leaf_nodup (n x j rfl)⟩
theorem zhx {α:Type} (r:PR α) (f:α->S60) (hf:∀ a,(f a).f6=[]):∀ x j,(r.bind fun l j=>PR.ok (f l) j) = .ok x j->x.f6=[]:=by
 cases r with
 | bad e p=>intro x j h;cases h
 | ok a i=>intro x j h;cases h;exact hf a
section
variable (g T c:Nat) (toks:List Tok) (aa:∀ k,k<toks.length->(tk toks k).kind≠8->k+1<toks.length)
include aa
theorem or_reads (k:Nat) (h:ziu g T c toks 80 (zcd toks k 1)):ziu g T c toks 54 (zcd toks (k+1) 0):=by
 intro W i res hi hs q;have hg:=hs.lts.1;have hT:=hs.lts.2.1;have ah:=zq (hs.alloc (.cells zbe 60));have M:=zq (qac W (.cells zbe 60));unfold zcd at q;have u:=zq (fun W' (Z:PSt W' g T c toks i)=>zpj g T c toks aa 80 6 sOr _ (fun w=>by kernel_rfl) h W' k i res hi Z q);have af:∀ (fn:Fn) (first cap:Array Value) (w:World),(Instr.makeFunc fn first cap).run prog w = .ok (.func fn first cap) w:=fun _ _ _ _=>rfl;clear hs q h;cases res with
 | bad ke pe=>
  go_enter func54,ntmps54;go_wp2_with (go_at_call 79;refine (u.o _ ah.o).mono ?_;rintro e1 w1 ⟨rfl,hF⟩);exact ⟨rfl,rfl,((Fr.refl W (·=g)).alloc _).trans hF⟩
 | ok x j=>
  go_enter func54,ntmps54;go_wp2_with (go_at_call 79;refine (u.o _ ah.o).mono ?_;rintro e3 w3 ⟨cs,L,rfl,n,B,hF,D,z,hd,A⟩;obtain ⟨v3,v4,v5,v6,rfl,-,-,-,-,r,n3,c3,s,n4,c4,A5,E,c5,A6,n6,c6,rfl,rfl,rfl,rfl⟩:=zay n;have J:=zq B;have G:=zq hF;have p:=hF.blk M.o kah;obtain ⟨y0,y1,y2,y3,y4,y5,y6,y7,z0,z1,z2,z3,z4,z5,z6,z7⟩:=zax p;have I:=zq p;rw [qae] at n;have y:=zq n;have d:=zq (And.intro D (And.intro z (And.intro hd A)));clear B hF n D z hd A p);obtain ⟨O,U,X⟩:=zdv hg hT I.o J.o (((Fr.refl W (·=g)).alloc _).trans G.o) (.int .i64 x.1.f0) (.string x.1.f1) (.string x.1.f2) (.slice r n3 c3) (.slice s n4 c4) (.slice A5 E c5) (.slice A6 n6 c6) (.int .i64 x.1.f7);refine qaf (qat rfl _ _ W.heap.size 60 #[.int .i64 x.1.f0,.string x.1.f1,.string x.1.f2,.slice r n3 c3,.slice s n4 c4,.slice A5 E c5,.slice A6 n6 c6,.int .i64 x.1.f7] (0,0) _ rfl O underlying60 rfl kae) rfl ?_;exact ⟨_,_,rfl,(y.o.fr (zbn _ _ _ _ _ _ _ _ _ _) fun Y ad e=>by have:=(y.o.lt Y ad).1;omega).lower kab,U,X,d.o.1,d.o.2.1,d.o.2.2.1,d.o.2.2.2⟩
theorem and_reads (k:Nat) (h:ziu g T c toks 115 (zcd toks k 2)):ziu g T c toks 80 (zcd toks (k+1) 1):=by
 intro W i res hi hs q;have hg:=hs.lts.1;have hT:=hs.lts.2.1;have ah:=zq (hs.alloc (.cells zbe 60));have M:=zq (qac W (.cells zbe 60));unfold zcd at q;have u:=zq (fun W' (Z:PSt W' g T c toks i)=>zpj g T c toks aa 115 5 sAnd _ (fun w=>by kernel_rfl) h W' k i res hi Z q);have af:∀ (fn:Fn) (first cap:Array Value) (w:World),(Instr.makeFunc fn first cap).run prog w = .ok (.func fn first cap) w:=fun _ _ _ _=>rfl;clear hs q h;cases res with
 | bad ke pe=>
  go_enter func80,ntmps80;go_wp2_with (go_at_call 79;refine (u.o _ ah.o).mono ?_;rintro e1 w1 ⟨rfl,hF⟩);exact ⟨rfl,rfl,((Fr.refl W (·=g)).alloc _).trans hF⟩
 | ok x j=>
  go_enter func80,ntmps80;go_wp2_with (go_at_call 79;refine (u.o _ ah.o).mono ?_;rintro e3 w3 ⟨cs,L,rfl,n,B,hF,D,z,hd,A⟩;obtain ⟨v3,v4,v5,v6,rfl,-,-,-,-,r,n3,c3,s,n4,c4,A5,E,c5,A6,n6,c6,rfl,rfl,rfl,rfl⟩:=zay n;have J:=zq B;have G:=zq hF;have p:=hF.blk M.o kah;obtain ⟨y0,y1,y2,y3,y4,y5,y6,y7,z0,z1,z2,z3,z4,z5,z6,z7⟩:=zax p;have I:=zq p;rw [qae] at n;have y:=zq n;have d:=zq (And.intro D (And.intro z (And.intro hd A)));clear B hF n D z hd A p);obtain ⟨O,U,X⟩:=zdv hg hT I.o J.o (((Fr.refl W (·=g)).alloc _).trans G.o) (.int .i64 x.1.f0) (.string x.1.f1) (.string x.1.f2) (.slice r n3 c3) (.slice s n4 c4) (.slice A5 E c5) (.slice A6 n6 c6) (.int .i64 x.1.f7);refine qaf (qat rfl _ _ W.heap.size 60 #[.int .i64 x.1.f0,.string x.1.f1,.string x.1.f2,.slice r n3 c3,.slice s n4 c4,.slice A5 E c5,.slice A6 n6 c6,.int .i64 x.1.f7] (0,0) _ rfl O underlying60 rfl kae) rfl ?_;exact ⟨_,_,rfl,(y.o.fr (zbn _ _ _ _ _ _ _ _ _ _) fun Y ad e=>by have:=(y.o.lt Y ad).1;omega).lower kab,U,X,d.o.1,d.o.2.1,d.o.2.2.1,d.o.2.2.2⟩
theorem first_oper (k:Nat) (W:World) (i:Nat) (res:PR CD) (hi:i<toks.length) (hs:PSt W g T c toks i) (hk:(tk toks i).kind=1) (q:isT (tk toks i) zgb=false) (L:isOp (tk toks i)=true) (d:zow toks (tk toks i) k (i+1)=some res) :
  Calls prog 144 #[.pointer (some ⟨g,0,none⟩)] W (zjn W g T c toks res):=by
 have s:=aa i hi kab;unfold zow at d;by_cases h1:(tk toks i).text.toList=zjq.toList
 ·rw [if_pos h1] at d;have d:=qaa d;subst d;refine znq g T c toks aa 175 W i _ hi hs hk q [] _ ⟨by rw [zch h1];rfl,by simp⟩ (fun w x=>by kernel_rfl) fun W' o=>(true_calls W' _).mono ?_;rintro e W2 ⟨rfl,G⟩;exact ⟨_,_,rfl,.mk (Row.nil _ _ _ _) (Row.nil _ _ _ _) (Row.nil _ _ _ _) (Row.nil _ _ _ _) .nil,o.below G,Fr.of_below G,s,zky rfl,by show 1<=16;decide,by simp [Blk,Value.ownBlock]⟩
 rw [if_neg h1] at d;by_cases y:(tk toks i).text.toList=zge.toList
 ·rw [if_pos y] at d;have d:=qaa d;subst d;refine znq g T c toks aa 176 W i _ hi hs hk q ((zgf g).take 1) ((zgf g).drop 2) ⟨by rw [zch y];rfl,by rw [zch y];exact zko kae⟩ (fun w x=>by kernel_rfl) fun W' o=>(false_calls W' _).mono ?_;rintro e W2 ⟨rfl,G⟩;exact ⟨_,_,rfl,.mk (Row.nil _ _ _ _) (Row.nil _ _ _ _) (Row.nil _ _ _ _) (Row.nil _ _ _ _) .nil,o.below G,Fr.of_below G,s,zky rfl,by show 1<=16;decide,by simp [Blk,Value.ownBlock]⟩
 rw [if_neg y] at d;by_cases z:(tk toks i).text.toList=zff.toList
 ·rw [if_pos z] at d;obtain ⟨r,hr,rfl⟩:=qbr.1 d;refine zfw g T c toks aa 177 W i _ hi hs hk q ((zgf g).take 2) ((zgf g).drop 3) ⟨by rw [zch z];rfl,by rw [zch z];exact zko kae⟩ (fun w x=>by kernel_rfl) fun W' o=>(addr_calls W' g T c toks aa k (i+1) s _ o r hr).mono ?_;intro e W2 h;have:=h.leaf (zhx _ _ fun _=>rfl);revert this;cases r<;>exact id
 rw [if_neg z] at d;by_cases A:(tk toks i).text.toList=zfa.toList
 ·rw [if_pos A] at d;obtain ⟨r,hr,rfl⟩:=qbr.1 d;refine zfw g T c toks aa 178 W i _ hi hs hk q ((zgf g).take 3) ((zgf g).drop 4) ⟨by rw [zch A];rfl,by rw [zch A];exact zko kae⟩ (fun w x=>by kernel_rfl) fun W' o=>(port_calls W' g T c toks aa k (i+1) s _ o r hr).mono ?_;intro e W2 h;have:=h.leaf (zhx _ _ fun _=>rfl);revert this;cases r<;>exact id
 rw [if_neg A] at d;by_cases B:(tk toks i).text.toList=zcj.toList
 ·rw [if_pos B] at d;obtain ⟨r,hr,rfl⟩:=qbr.1 d;refine zfw g T c toks aa 179 W i _ hi hs hk q ((zgf g).take 4) ((zgf g).drop 5) ⟨by rw [zch B];rfl,by rw [zch B];exact zko kae⟩ (fun w x=>by kernel_rfl) fun W' o=>(method_calls W' g T c toks aa k (i+1) s _ o r hr).mono ?_;intro e W2 h;have:=h.leaf (zhx _ _ fun _=>rfl);revert this;cases r<;>exact id
 rw [if_neg B] at d;by_cases D:(tk toks i).text.toList=zif.toList
 ·rw [if_pos D] at d;have d:=qaa d;subst d;refine zfw g T c toks aa 180 W i _ hi hs hk q ((zgf g).take 5) ((zgf g).drop 6) ⟨by rw [zch D];rfl,by rw [zch D];exact zko kae⟩ (fun w x=>by kernel_rfl) fun W' o=>(path_calls W' g T c toks aa (i+1) s _ o).mono ?_;intro e W2 h;cases I:zdf toks zck (i+1) with
  | bad e p=>rw [I] at h;exact h
  | ok _ j=>
   rw [I] at h;have h:=h.leaf (zhx (ofP toks 6 j) (fun u=>⟨10,⟨#[]⟩,u.text,[],[],[],[],(tk toks i).place⟩) fun _=>rfl);revert h;show zjn _ _ _ _ _ ((PR.bind (ofP toks 6 j) _).bind _) _ _->zjn _ _ _ _ _ (PR.bind (ofP toks 6 j) _) _ _;cases ofP toks 6 j<;>exact id
 rw [if_neg D] at d;by_cases E:(tk toks i).text.toList=zei.toList
 ·rw [if_pos E] at d;have d:=qaa d;subst d;refine zfw g T c toks aa 181 W i _ hi hs hk q ((zgf g).take 6) ((zgf g).drop 7) ⟨by rw [zch E];rfl,by rw [zch E];exact zko kae⟩ (fun w x=>by kernel_rfl) fun W' o=>(header_calls W' g T c toks aa (i+1) s _ o).mono ?_;intro e W2 h;cases hn:ofP toks 6 (i+1) with
  | bad e p=>rw [hn] at h;exact h
  | ok n j=>
   rw [hn] at h;dsimp only [PR.bind] at h ⊢;cases I:zdf toks zck j with
   | bad e p=>rw [I] at h;exact h
   | ok _ m=>
    rw [I] at h;dsimp only [PR.bind] at h ⊢;have h:=h.leaf (zhx (ofP toks 6 m) (fun u=>⟨11,n.text,u.text,[],[],[],[],(tk toks i).place⟩) fun _=>rfl);revert h;cases ofP toks 6 m<;>exact id
 rw [if_neg E] at d;by_cases J:(tk toks i).text.toList=sHas.toList
 ·rw [if_pos J] at d;have d:=qaa d;subst d;refine zfw g T c toks aa 182 W i _ hi hs hk q ((zgf g).take 7) ((zgf g).drop 8) ⟨by rw [zch J];rfl,by rw [zch J];exact zko kae⟩ (fun w x=>by kernel_rfl) fun W' o=>(has_calls W' g T c toks aa (i+1) s _ o).mono ?_;intro e W2 h;have h:=h.leaf (zhx (ofP toks 6 (i+1)) (fun n=>⟨12,n.text,⟨#[]⟩,[],[],[],[],(tk toks i).place⟩) fun _=>rfl);revert h;cases ofP toks 6 (i+1)<;>exact id
 exfalso;unfold isOp at L;simp only [List.any_cons,List.any_nil,Bool.or_false,Bool.or_eq_true,qaq] at L;rcases L with h|h|h|h|h|h|h|h
 ·exact h1 h
 ·exact y h
 ·exact z h
 ·exact A h
 ·exact B h
 ·exact D h
 ·exact E h
 exact J h
theorem first_reads (k:Nat) (h:ziu g T c toks 54 (zcd toks k 0)):ziu g T c toks 144 (zcd toks (k+1) 3):=by
 intro W i res hi hs d;cases e:isT (tk toks i) zgb with
 | true=>exact first_bracket g T c toks aa k h W i res hi hs e d
 | false=>
  by_cases o:(tk toks i).kind=2
  ·exact first_name g T c toks aa k W i res hi hs o d
  unfold zcd at d;rw [if_neg (by rw [e];decide),if_neg o] at d;by_cases h1:(tk toks i).kind=1
  ·cases n:isOp (tk toks i) with
   | true=>
    rw [if_pos ⟨h1,n⟩] at d;exact first_oper g T c toks aa k W i res hi hs h1 e n d
   | false=>
    rw [if_neg (by rw [n];simp)] at d;have d:=qaa d;subst d;exact first_bad1 g T c toks W i hi hs h1 e (op_none g n)
  rw [if_neg (fun h=>h1 h.1)] at d;have d:=qaa d;subst d;exact first_bad2 g T c toks W i hi hs h1 o e
theorem zmm:∀ k,ziu g T c toks 54 (zcd toks k 0)/\ziu g T c toks 80 (zcd toks k 1)/\ziu g T c toks 115 (zcd toks k 2)/\ziu g T c toks 144 (zcd toks k 3)
 | 0=>⟨fun _ _ _ _ _ h=>by simp [zcd] at h,fun _ _ _ _ _ h=>by simp [zcd] at h,fun _ _ _ _ _ h=>by simp [zcd] at h,fun _ _ _ _ _ h=>by simp [zcd] at h⟩
 | k+1=>
  have h:=zmm k
  ⟨or_reads g T c toks aa k h.2.1,and_reads g T c toks aa k h.2.2.1,not_reads g T c toks aa k h.2.2.1 h.2.2.2,first_reads g T c toks aa k h.1⟩
end
end
section
abbrev zfy:Array Value:=#[.int .i64 0,.string ⟨#[]⟩,.int .i64 0,.string ⟨#[]⟩,.string ⟨#[]⟩,.slice none 0 0,.slice none 0 0,.slice none 0 0,.slice none 0 0,.int .i64 0,.int .i64 0]
abbrev zcg (k:Int) (n:ByteArray) (a:Int):Array Value:=#[.int .i64 k,.string n,.int .i64 0,.string ⟨#[]⟩,.string ⟨#[]⟩,.slice none 0 0,.slice none 0 0,.slice none 0 0,.slice none 0 0,.int .i64 0,.int .i64 a]
def zqv:List (ByteArray×Value):=[(sLet,.int .i64 1),(zde,.int .i64 2),(zet,.int .i64 3)]
theorem zbd {w:World} {m t:Nat} {v0 v1 v2 v3 v4 v5 e n o v9 d:Value} (h:w.heap[m]?=some (.cells #[v0,v1,v2,v3,v4,v5,e,n,o,v9,d] t (0,0))) :
  (w.cell? ⟨m,0,none⟩=some v0/\w.cell? ⟨m,1,none⟩=some v1/\w.cell? ⟨m,2,none⟩=some v2/\w.cell? ⟨m,3,none⟩=some v3/\w.cell? ⟨m,4,none⟩=some v4/\w.cell? ⟨m,5,none⟩=some v5/\w.cell? ⟨m,6,none⟩=some e/\w.cell? ⟨m,7,none⟩=some n/\w.cell? ⟨m,8,none⟩=some o/\w.cell? ⟨m,9,none⟩=some v9/\w.cell? ⟨m,10,none⟩=some d) /\
  (w.frozen? ⟨m,0,none⟩=false/\w.frozen? ⟨m,1,none⟩=false/\w.frozen? ⟨m,2,none⟩=false/\w.frozen? ⟨m,3,none⟩=false/\w.frozen? ⟨m,4,none⟩=false/\w.frozen? ⟨m,5,none⟩=false/\w.frozen? ⟨m,6,none⟩=false/\w.frozen? ⟨m,7,none⟩=false/\w.frozen? ⟨m,8,none⟩=false/\w.frozen? ⟨m,9,none⟩=false/\w.frozen? ⟨m,10,none⟩=false):=
 ⟨⟨zab h 0,zab h 1,zab h 2,zab h 3,zab h 4,zab h 5,zab h 6,zab h 7,zab h 8,zab h 9,zab h 10⟩,⟨zac h 0,zac h 1,zac h 2,zac h 3,zac h 4,zac h 5,zac h 6,zac h 7,zac h 8,zac h 9,zac h 10⟩⟩
def zvp (W:World) (g T c:Nat) (toks:List Tok) (r:PR S62):Ending->World->Prop:=
 EndP r (fun x j e W'=>∃ cs L,e = .returned (.agg (([Value.int .i64 x.f0,Value.string x.f1]:List Value)++cs++[Value.int .i64 x.f3]).toArray)/\Tree W' W.heap.size x.f2 cs L/\PSt W' g T c toks j/\Fr W W' (·=g)/\j<toks.length/\L.Nodup) (fun W'=>Fr W W' (·=g))
structure ItInv (W:World) (g T c:Nat) (toks:List Tok) (i m:Nat) (cells:Array Value) (W':World):Prop where
 st:PSt W' g T c toks i
 fr:Fr W W' (·=g)
 res:W'.heap[W.heap.size]?=some (.cells zfy 62 (0,0))
 itm:W'.heap[m]?=some (.cells cells 62 (0,0))
 lt:W.heap.size<m
section
variable {W W1 W2:World} {g T c i j m:Nat} {toks:List Tok} {cells:Array Value}
theorem ItInv.move (h:ItInv W g T c toks i m cells W1) (hg:g<W.heap.size) (d:PSt W2 g T c toks j) (hF:Fr W1 W2 (·=g)):ItInv W g T c toks j m cells W2:=
 ⟨d,h.fr.trans hF,hF.blk h.res kab,hF.blk h.itm (by have:=h.lt;omega),h.lt⟩
theorem ItInv.other (h:ItInv W g T c toks i m cells W1) {S:Nat->Prop} (hF:Fr W1 W2 S) (hs:∀ k,S k->W1.heap.size<=k):ItInv W g T c toks i m cells W2:=by
 have d:=h.st.lts;have n:=zam h.res;have o:=zam h.itm;exact ⟨h.st.fr hF (fun e=>by have:=hs _ e;omega) (fun e=>by have:=hs _ e;omega),h.fr.then_ hF (fun k hk => .inr (by have:=hs k hk;omega)),hF.blk h.res (fun e=>by have:=hs _ e;omega),hF.blk h.itm (fun e=>by have:=hs _ e;omega),h.lt⟩
theorem ItInv.step (h:ItInv W g T c toks i m cells W1) (hg:g<W.heap.size):ItInv W g T c toks (i+1) m cells (W1.setCell ⟨g,1,none⟩ (.int .i64 ((i:Int)+1))):=
 h.move hg h.st.step (Fr.setCell (S:=(·=g)) (Fr.refl _ _) (.inl rfl) _)
theorem ItInv.put (h:ItInv W g T c toks i m cells W1) (hg:g<W.heap.size) (e:T<W.heap.size) (k:Nat) (v:Value) {cells':Array Value} (d:cells.setIfInBounds k v=cells'):ItInv W g T c toks i m cells' (W1.setCell ⟨m,k,none⟩ v):=by
 have lt:=h.lt;have hF:Fr W1 (W1.setCell ⟨m,k,none⟩ v) (·=m):=Fr.setCell (S:=(·=m)) (Fr.refl _ _) (.inl rfl) _;subst d;exact ⟨h.st.fr hF kab kab,h.fr.then_ hF (fun k hk => .inr kab),hF.blk h.res kab,zan h.itm k v rfl,lt⟩
theorem ItInv.put8 (h:ItInv W g T c toks i m cells W1) (hg:g<W.heap.size) (d:T<W.heap.size) {k:Int} {n:ByteArray} {a:Int} (y:cells=zcg k n a) (v0 v1 v2 v3 v4 v5 e o:Value) :
  ItInv W g T c toks i m #[.int .i64 k,.string n,v0,v1,v2,v3,v4,v5,e,o,.int .i64 a] ((((((((W1.setCell ⟨m,2,none⟩ v0).setCell ⟨m,3,none⟩ v1).setCell ⟨m,4,none⟩ v2).setCell ⟨m,5,none⟩ v3).setCell ⟨m,6,none⟩ v4).setCell ⟨m,7,none⟩ v5).setCell ⟨m,8,none⟩ e).setCell ⟨m,9,none⟩ o):=by
 subst y;have p:ItInv W g T c toks i m #[.int .i64 k,.string n,v0,.string ⟨#[]⟩,.string ⟨#[]⟩,.slice none 0 0,.slice none 0 0,.slice none 0 0,.slice none 0 0,.int .i64 0,.int .i64 a] _:=h.put hg d 2 v0 rfl;have q:ItInv W g T c toks i m #[.int .i64 k,.string n,v0,v1,.string ⟨#[]⟩,.slice none 0 0,.slice none 0 0,.slice none 0 0,.slice none 0 0,.int .i64 0,.int .i64 a] _:=p.put hg d 3 v1 rfl;have r:ItInv W g T c toks i m #[.int .i64 k,.string n,v0,v1,v2,.slice none 0 0,.slice none 0 0,.slice none 0 0,.slice none 0 0,.int .i64 0,.int .i64 a] _:=q.put hg d 4 v2 rfl;have s:ItInv W g T c toks i m #[.int .i64 k,.string n,v0,v1,v2,v3,.slice none 0 0,.slice none 0 0,.slice none 0 0,.int .i64 0,.int .i64 a] _:=r.put hg d 5 v3 rfl;have u:ItInv W g T c toks i m #[.int .i64 k,.string n,v0,v1,v2,v3,v4,.slice none 0 0,.slice none 0 0,.int .i64 0,.int .i64 a] _:=s.put hg d 6 v4 rfl;have w:ItInv W g T c toks i m #[.int .i64 k,.string n,v0,v1,v2,v3,v4,v5,.slice none 0 0,.int .i64 0,.int .i64 a] _:=u.put hg d 7 v5 rfl;have x:ItInv W g T c toks i m #[.int .i64 k,.string n,v0,v1,v2,v3,v4,v5,e,.int .i64 0,.int .i64 a] _:=w.put hg d 8 e rfl;exact x.put hg d 9 o rfl
abbrev zqm (W:World) (m:Nat) (v0 v1 v2 v3 v4 v5 e n o v9 d:Value):World:=
 ((((((((((W.setCell ⟨m,0,none⟩ v0).setCell ⟨m,1,none⟩ v1).setCell ⟨m,2,none⟩ v2).setCell ⟨m,3,none⟩ v3).setCell ⟨m,4,none⟩ v4).setCell ⟨m,5,none⟩ v5).setCell ⟨m,6,none⟩ e).setCell ⟨m,7,none⟩ n).setCell ⟨m,8,none⟩ o).setCell ⟨m,9,none⟩ v9).setCell ⟨m,10,none⟩ d
theorem zij {m t:Nat} {a0 a1 a2 a3 a4 a5 o n e a9 d:Value} (h:W.heap[m]?=some (.cells #[a0,a1,a2,a3,a4,a5,o,n,e,a9,d] t (0,0))) (v0 v1 v2 v3 v4 v5 p q r v9 s:Value) :
  (zqm W m v0 v1 v2 v3 v4 v5 p q r v9 s).heap[m]?=some (.cells #[v0,v1,v2,v3,v4,v5,p,q,r,v9,s] t (0,0)):=by
 have u:_=some (Obj.cells #[v0,a1,a2,a3,a4,a5,o,n,e,a9,d] t (0,0)):=zan h 0 v0 rfl;have w:_=some (Obj.cells #[v0,v1,a2,a3,a4,a5,o,n,e,a9,d] t (0,0)):=zan u 1 v1 rfl;have x:_=some (Obj.cells #[v0,v1,v2,a3,a4,a5,o,n,e,a9,d] t (0,0)):=zan w 2 v2 rfl;have y:_=some (Obj.cells #[v0,v1,v2,v3,a4,a5,o,n,e,a9,d] t (0,0)):=zan x 3 v3 rfl;have z:_=some (Obj.cells #[v0,v1,v2,v3,v4,a5,o,n,e,a9,d] t (0,0)):=zan y 4 v4 rfl;have A:_=some (Obj.cells #[v0,v1,v2,v3,v4,v5,o,n,e,a9,d] t (0,0)):=zan z 5 v5 rfl;have B:_=some (Obj.cells #[v0,v1,v2,v3,v4,v5,p,n,e,a9,d] t (0,0)):=zan A 6 p rfl;have D:_=some (Obj.cells #[v0,v1,v2,v3,v4,v5,p,q,e,a9,d] t (0,0)):=zan B 7 q rfl;have E:_=some (Obj.cells #[v0,v1,v2,v3,v4,v5,p,q,r,a9,d] t (0,0)):=zan D 8 r rfl;have G:_=some (Obj.cells #[v0,v1,v2,v3,v4,v5,p,q,r,v9,d] t (0,0)):=zan E 9 v9 rfl;exact zan G 10 s rfl
theorem zez (W:World) (m:Nat) (v0 v1 v2 v3 v4 v5 e n o v9 d:Value):Fr W (zqm W m v0 v1 v2 v3 v4 v5 e n o v9 d) (·=m):=by
 have q:=(Fr.refl W (·=m)).setCell (p:=⟨m,0,none⟩) (.inl rfl) v0;have r:=q.setCell (p:=⟨m,1,none⟩) (.inl rfl) v1;have s:=r.setCell (p:=⟨m,2,none⟩) (.inl rfl) v2;have u:=s.setCell (p:=⟨m,3,none⟩) (.inl rfl) v3;have w:=u.setCell (p:=⟨m,4,none⟩) (.inl rfl) v4;have x:=w.setCell (p:=⟨m,5,none⟩) (.inl rfl) v5;have y:=x.setCell (p:=⟨m,6,none⟩) (.inl rfl) e;have z:=y.setCell (p:=⟨m,7,none⟩) (.inl rfl) n;have A:=z.setCell (p:=⟨m,8,none⟩) (.inl rfl) o;have B:=A.setCell (p:=⟨m,9,none⟩) (.inl rfl) v9;exact B.setCell (p:=⟨m,10,none⟩) (.inl rfl) d
end
theorem zrw {W y q z B:World} {g T c i j m:Nat} {toks:List Tok} {cells cells':Array Value} {k:Int} {n:ByteArray} {x:S60} {a:Int} {v0 v1 v2 v3 v4 v5 d o:Value} {L:List Nat} (hg:g<W.heap.size) (hT:T<W.heap.size)
  (A:Tree q y.heap.size x [v0,v1,v2,v3,v4,v5,d,o] L) (hj:i<toks.length) (X:L.Nodup) (Z:W.heap.size<y.heap.size) (ad:m<y.heap.size) (h7:ItInv W g T c toks i m cells q) (s:ItInv W g T c toks j m cells' z)
  (hF:Fr (((((((( q.setCell ⟨m,2,none⟩ v0).setCell ⟨m,3,none⟩ v1).setCell ⟨m,4,none⟩ v2).setCell ⟨m,5,none⟩ v3).setCell ⟨m,6,none⟩ v4).setCell ⟨m,7,none⟩ v5).setCell ⟨m,8,none⟩ d).setCell ⟨m,9,none⟩ o) z (·=g))
  (u:Fr z B (·=W.heap.size)) (Y:j<toks.length) :
  zvp W g T c toks (.ok ⟨k,n,x,a⟩ j) (.returned (.agg #[.int .i64 k,.string n,v0,v1,v2,v3,v4,v5,d,o,.int .i64 a])) B:=by
 have D:=(Fr.refl q (·=m)).setCell (p:=⟨m,2,none⟩) (.inl rfl) v0;have E:=D.setCell (p:=⟨m,3,none⟩) (.inl rfl) v1;have G:=E.setCell (p:=⟨m,4,none⟩) (.inl rfl) v2;have I:=G.setCell (p:=⟨m,5,none⟩) (.inl rfl) v3;have J:=I.setCell (p:=⟨m,6,none⟩) (.inl rfl) v4;have M:=J.setCell (p:=⟨m,7,none⟩) (.inl rfl) v5;have O:=M.setCell (p:=⟨m,8,none⟩) (.inl rfl) d;have U:=O.setCell (p:=⟨m,9,none⟩) (.inl rfl) o;have af:=s.lt;refine ⟨[v0,v1,v2,v3,v4,v5,d,o],L,rfl,(((A.fr U fun r w e=>?_).fr hF fun r w e=>?_).fr u fun r w e=>?_).lower kab,s.st.fr u kab kab,s.fr.then_ u fun k hk => .inr kab,Y,X⟩;all_goals (have:=(A.lt r w).1;omega)
theorem kind_look {W:World} {b:Nat} {t:Tok} (h:MapS W b zqv):∃ z ok,(Instr.lookup 99 (.map (some b)) (.string t.text) true).run prog W = .ok (.tuple #[.int .i64 z,.bool ok]) W/\zfj t=if ok=true then some z else none:=by
 obtain ⟨v,ok,d,o⟩:=MapS.look_any underlying99 underlying9 (P:=prog) (z := .int .i64 0) (W:=W) kae (s:=t.text) h;rcases o with ⟨⟨p,hp,hs,n⟩,rfl⟩|⟨hn,rfl,rfl⟩
 ·simp only [zqv,List.mem_cons,List.not_mem_nil,or_false] at hp;rcases hp with rfl|rfl|rfl
  ·exact ⟨1,true,by rw [d,n],by unfold zfj;rw [<-hs];kernel_rfl⟩
  ·exact ⟨2,true,by rw [d,n],by unfold zfj;rw [<-hs];kernel_rfl⟩
  exact ⟨3,true,by rw [d,n],by unfold zfj;rw [<-hs];kernel_rfl⟩
 refine ⟨0,false,d,?_⟩;unfold zfj;rw [if_neg (fun e=>hn _ (List.mem_cons_self ..) (zch e).symm),if_neg (fun e=>hn _ (List.mem_cons_of_mem _ (List.mem_cons_self ..)) (zch e).symm),if_neg (fun e=>hn _ (List.mem_cons_of_mem _ (List.mem_cons_of_mem _ (List.mem_cons_self ..))) (zch e).symm)];rfl
section
variable (g T c:Nat) (toks:List Tok) (aa:∀ k,k<toks.length->(tk toks k).kind≠8->k+1<toks.length)
include aa
theorem item_calls (W:World) (k n i:Nat) (res:PR S62) (hi:i<toks.length) (hn:n<=100) (hs:PSt W g T c toks i) (d:zfq toks k n i=some res) :
  Calls prog 29 #[.pointer (some ⟨g,0,none⟩),.int .i64 n] W (zvp W g T c toks res):=by
 have hg:=hs.lts.1;have O:=hs.lts.2.1;have hm:=hs.many;have bu:=zsn;have bs:=zgy;have HP:=zq (fun W' (y:PSt W' g T c toks i)=>zcr W' g T c toks i _ (zdg toks hi) y);have aW:=HP;have aL:=zq (fun W' e (y:PSt W' g T c toks i)=>zeq W' g T c toks i _ (zdg toks hi) e y);have ah:=zq (hs.alloc (.cells zfy 62));have aN:=zq (qac W (.cells zfy 62));have aT:=zq ((Fr.refl W (·=g)).alloc (.cells zfy 62));have aX:=zq d;have aB:=zq aa;have bz:=@run_makeMap prog;clear hs d aa;go_enter func29,ntmps29;go_upto_region 3 with (first
  | (go_at_call 28;refine (HP.o _ ah.o).mono ?_;rintro e1 w1 ⟨rfl,aE⟩;have HI:=zq (ItInv.mk ((ah.o.below aE).alloc (.cells (zcg 0 ⟨#[]⟩ (tk toks i).place) 62)) ((aT.o.trans (Fr.of_below aE)).alloc _) (zaf ((Fr.of_below (S:=(·=g)) aE).blk aN.o kah) _) (qac w1 (.cells (zcg 0 ⟨#[]⟩ (tk toks i).place) 62)) (zam ((Fr.of_below (S:=(·=g)) aE).blk aN.o kah)));have aC:=zq (zhk (w1.alloc (.cells (zcg 0 ⟨#[]⟩ (tk toks i).place) 62)));have aH:=zq (qae w1 (.cells (zcg 0 ⟨#[]⟩ (tk toks i).place) 62));have HG:=zq ((Fr.refl (w1.alloc (.cells (zcg 0 ⟨#[]⟩ (tk toks i).place) 62)) (·=w1.heap.size+1)).alloc (.map #[] 0));clear aE HP)
  | (refine zeg rfl _ _ _ rfl underlying99 underlying9 (w1.heap.size+1) _ _ _ rfl (aH.o ▸ aC.o) rfl rfl kae ?_;intro w3 bb aY;have aC:=zq (aH.o.symm ▸ bb);have HG:=zq (HG.o.trans (Fr.of_grown (S:=(·=w1.heap.size+1)) aY (fun k hk=>(qaa hk).symm)));clear bb aY))
 have aG:=zq (ItInv.other HI.o HG.o (fun k hk=>by rw [aH.o];omega));have aC:=zq (show MapS w3 (w1.heap.size+1) zqv from aH.o ▸ aC.o);clear ah aN aT HI HG;go_upto_region 4 with (go_at_call 28;go_loud (refine (aW.o _ aG.o.st).mono ?_;rintro e4 w4 ⟨rfl,aI⟩;have ad:=zq (ItInv.other (ItInv.other aG.o (Fr.of_below (S:=fun _=>False) aI) (fun _ h=>h.elim)) ((Fr.refl w4 (fun _=>False)).alloc (tokO (tk toks i))) (fun _ h=>h.elim));have aV:=zq ((aC.o.blk (aI.block _ aC.o.lt)).alloc (tokO (tk toks i)));have HM:=zq (qac w4 (tokO (tk toks i)));have aU:=zq (show w1.heap.size<w4.heap.size from qce (zam aG.o.itm) aI.size);clear aI aC aG aW));obtain ⟨z,ok,bk,aR⟩:=kind_look (t:=tk toks i) aV.o;clear aV;obtain ⟨q0,q1,q2,q3,q4,q5⟩:=zbk HM.o;have bv:g≠w4.heap.size:=(by have:=ad.o.lt;have:=aU.o;omega);have bw:g≠w1.heap.size:=(by have:=ad.o.lt;omega);have bx:w1.heap.size≠w4.heap.size:=(by have:=aU.o;omega);have br:W.heap.size≠w1.heap.size:=(by have:=ad.o.lt;omega);have d:=aX.o;clear aX;unfold zfq at d;by_cases hk:(tk toks i).kind=1
 ·rw [if_pos hk,aR] at d;simp only [tokO,hk] at bk ad q0 q1 q2 q3 q4 q5;have aZ:=aB.o i hi kab;clear aR;cases ok with
  | false=>
   have d:=qaa d;subst d;go_wp2_with (go_at_call 51;refine (aL.o _ 90 ad.o.st).mono ?_;rintro e5 w5 ⟨rfl,aF⟩);exact ⟨rfl,rfl,ad.o.fr.trans (Fr.of_below aF)⟩
  | true=>
   by_cases aO:n=100
   ·rw [if_pos rfl] at d;simp only [if_pos aO] at d;have d:=qaa d;subst d;subst aO;go_wp2_with (go_at_call 51;refine (aL.o _ 92 ad.o.st).mono ?_;rintro e5 w5 ⟨rfl,aF⟩);exact ⟨rfl,rfl,ad.o.fr.trans (Fr.of_below aF)⟩
   rw [if_pos rfl] at d;simp only [if_neg aO] at d;have bq:¬(n:Int)=100:=kab;obtain ⟨s0,s1,s2⟩:=ad.o.st.facts;obtain ⟨⟨x0,-⟩,f0,-⟩:=zbd ad.o.itm;have D:=zq (fun W' (y:PSt W' g T c toks (i+1))=>zgu W' g T c toks (i+1) _ (zdg toks aZ) 2 y);have G:=zq ((ad.o.step hg).put hg O 0 (.int .i64 z) (cells':=zcg z ⟨#[]⟩ (tk toks i).place) rfl);unfold ofP at d;by_cases h2:(tk toks (i+1)).kind=2
   ·rw [if_pos h2] at d;simp only [if_pos h2] at D;dsimp only at d;have aJ:=aB.o (i+1) aZ kab;have J:=zq (fun W' j s (y:PSt W' g T c toks j)=>zeh W' g T c toks j _ (zdg toks s) ziz y);by_cases hz:z=1
    ·simp only [if_pos hz] at d;subst hz;unfold zdf at d;have E:=zq (fun W' (y:PSt W' g T c toks (i+1+1))=>zeh W' g T c toks (i+1+1) _ (zdg toks aJ) sEq y);by_cases h3:isT (tk toks (i+1+1)) sEq=true
     ·rw [if_pos h3] at d;simp only [if_pos h3] at E;dsimp only at d;have aQ:=aB.o (i+1+1) aJ (zcc h3);cases hc:zcd toks k 0 (i+1+1+1) with
      | none=>rw [hc] at d;cases d
      | some r=>
      rw [hc] at d;have a6:=zq (fun W' y=>(zmm g T c toks aB.o k).1 W' (i+1+1+1) r aQ y hc);clear hc;cases r with
      | bad ke pe=>
       have d:=qaa d;subst d;go_wp2_with (first
        | (go_at_call 52;refine (D.o _ G.o.st).mono ?_;rintro e5 w5 ⟨⟨rfl,A⟩,q⟩;have u:=zq (G.o.move hg A q);obtain ⟨⟨u0,u1,-⟩,-,g1,-⟩:=zbd u.o.itm;have w:=zq (u.o.put hg O 1 (.string (tk toks (i+1)).text) (cells':=zcg 1 (tk toks (i+1)).text (tk toks i).place) rfl);clear A q D)
        | (go_at_call 53;refine (E.o _ w.o.st).mono ?_;rintro e6 X ⟨⟨rfl,I⟩,B⟩;have p:=zq (w.o.move hg I B);clear I B E)
        | (go_at_call 54;refine (a6.o _ p.o.st).mono ?_;rintro e7 w7 ⟨rfl,aP⟩))
       exact ⟨rfl,rfl,p.o.fr.trans aP⟩
      | ok x j=>
       have d:=qaa d;unfold zdf at d;by_cases h4:isT (tk toks j) ziz=true
       ·rw [if_pos h4] at d;subst d;simp only [PR.bind];have J:=zq (fun W' s y=>J.o W' j s y);simp only [if_pos h4] at J;have aM:=zq (fun s=>aB.o j s (zcc h4));go_wp2_with (first
         | (go_at_call 52;refine (D.o _ G.o.st).mono ?_;rintro e5 w5 ⟨⟨rfl,A⟩,q⟩;have u:=zq (G.o.move hg A q);obtain ⟨⟨u0,u1,-⟩,-,g1,-⟩:=zbd u.o.itm;have w:=zq (u.o.put hg O 1 (.string (tk toks (i+1)).text) (cells':=zcg 1 (tk toks (i+1)).text (tk toks i).place) rfl);clear A q D)
         | (go_at_call 53;refine (E.o _ w.o.st).mono ?_;rintro e6 X ⟨⟨rfl,I⟩,B⟩;have p:=zq (w.o.move hg I B);clear I B E)
         | (go_at_call 54;refine (a6.o _ p.o.st).mono ?_;rintro e7 w7 ⟨cs,L,rfl,U,hS,hF,s,hD,hd,a8⟩;obtain ⟨v3,v4,v5,v6,rfl,-,-,-,-,Y,n3,c3,Z,n4,c4,A5,n5,c5,A6,n6,c6,rfl,rfl,rfl,rfl⟩:=zay U;have af:=zq (p.o.move hg hS hF);obtain ⟨⟨k0,k1,k2,k3,k4,k5,k6,k7,k8,k9,aS⟩,l0,l1,l2,l3,l4,l5,l6,l7,l8,l9,l10⟩:=zbd af.o.itm;have a1:=zq (af.o.put8 hg O rfl (.int .i64 x.1.f0) (.string x.1.f1) (.string x.1.f2) (.slice Y n3 c3) (.slice Z n4 c4) (.slice A5 n5 c5) (.slice A6 n6 c6) (.int .i64 x.1.f7));have M:=zq (And.intro U (And.intro s a8));have au:=zq (show W.heap.size<X.heap.size/\w1.heap.size<X.heap.size from ⟨zam p.o.res,zam p.o.itm⟩);clear U hS hF s hD hd a8 a6)
         | (go_at_call 53;refine (J.o _ M.o.2.1 a1.o.st).mono ?_;rintro e8 w8 ⟨⟨rfl,aD⟩,a7⟩;have aA:=zq (a1.o.move hg aD a7);have aK:=zq a7;obtain ⟨⟨b0,b1,b2,b3,b4,b5,b6,b7,b8,b9,bd⟩,-⟩:=zbd aA.o.itm;obtain ⟨⟨y0,y1,y2,y3,y4,y5,y6,y7,y8,y9,bo⟩,z0,z1,z2,z3,z4,z5,z6,z7,z8,z9,bp⟩:=zbd aA.o.res;clear aD a7))
        have R1:=zij aA.o.res (.int .i64 1) (.string (tk toks (i+1)).text) (.int .i64 x.1.f0) (.string x.1.f1) (.string x.1.f2) (.slice Y n3 c3) (.slice Z n4 c4) (.slice A5 n5 c5) (.slice A6 n6 c6) (.int .i64 x.1.f7) (.int .i64 (tk toks i).place);have R3:=zez w8 W.heap.size (.int .i64 1) (.string (tk toks (i+1)).text) (.int .i64 x.1.f0) (.string x.1.f1) (.string x.1.f2) (.slice Y n3 c3) (.slice Z n4 c4) (.slice A5 n5 c5) (.slice A6 n6 c6) (.int .i64 x.1.f7) (.int .i64 (tk toks i).place);refine qaf (qat rfl _ _ W.heap.size 62 #[.int .i64 1,.string (tk toks (i+1)).text,.int .i64 x.1.f0,.string x.1.f1,.string x.1.f2,.slice Y n3 c3,.slice Z n4 c4,.slice A5 n5 c5,.slice A6 n6 c6,.int .i64 x.1.f7,.int .i64 (tk toks i).place] (0,0) _ rfl R1 underlying62 rfl kae) rfl ?_;exact zrw hg O M.o.1 M.o.2.1 M.o.2.2 au.o.1 au.o.2 af.o aA.o aK.o R3 (aM.o M.o.2.1)
       rw [if_neg h4] at d;subst d;simp only [PR.bind];have J:=zq (fun W' s y=>J.o W' j s y);simp only [if_neg h4] at J;go_wp2_with (first
        | (go_at_call 52;refine (D.o _ G.o.st).mono ?_;rintro e5 w5 ⟨⟨rfl,A⟩,q⟩;have u:=zq (G.o.move hg A q);obtain ⟨⟨u0,u1,-⟩,-,g1,-⟩:=zbd u.o.itm;have w:=zq (u.o.put hg O 1 (.string (tk toks (i+1)).text) (cells':=zcg 1 (tk toks (i+1)).text (tk toks i).place) rfl);clear A q D)
        | (go_at_call 53;refine (E.o _ w.o.st).mono ?_;rintro e6 X ⟨⟨rfl,I⟩,B⟩;have p:=zq (w.o.move hg I B);clear I B E)
        | (go_at_call 54;refine (a6.o _ p.o.st).mono ?_;rintro e7 w7 ⟨cs,L,rfl,U,hS,hF,s,hD,hd,a8⟩;obtain ⟨v3,v4,v5,v6,rfl,-,-,-,-,Y,n3,c3,Z,n4,c4,A5,n5,c5,A6,n6,c6,rfl,rfl,rfl,rfl⟩:=zay U;have af:=zq (p.o.move hg hS hF);obtain ⟨⟨k0,k1,k2,k3,k4,k5,k6,k7,k8,k9,aS⟩,l0,l1,l2,l3,l4,l5,l6,l7,l8,l9,l10⟩:=zbd af.o.itm;have a1:=zq (af.o.put8 hg O rfl (.int .i64 x.1.f0) (.string x.1.f1) (.string x.1.f2) (.slice Y n3 c3) (.slice Z n4 c4) (.slice A5 n5 c5) (.slice A6 n6 c6) (.int .i64 x.1.f7));have M:=zq (And.intro U (And.intro s a8));have au:=zq (show W.heap.size<X.heap.size/\w1.heap.size<X.heap.size from ⟨zam p.o.res,zam p.o.itm⟩);clear U hS hF s hD hd a8 a6)
        | (go_at_call 53;refine (J.o _ M.o.2.1 a1.o.st).mono ?_;rintro e8 w8 ⟨rfl,a7⟩))
       exact ⟨rfl,rfl,a1.o.fr.trans a7⟩
     rw [if_neg h3] at d;simp only [if_neg h3] at E;have d:=qaa d;subst d;go_wp2_with (first
      | (go_at_call 52;refine (D.o _ G.o.st).mono ?_;rintro e5 w5 ⟨⟨rfl,A⟩,q⟩;have u:=zq (G.o.move hg A q);obtain ⟨⟨u0,u1,-⟩,-,g1,-⟩:=zbd u.o.itm;have w:=zq (u.o.put hg O 1 (.string (tk toks (i+1)).text) (cells':=zcg 1 (tk toks (i+1)).text (tk toks i).place) rfl);clear A q D)
      | (go_at_call 53;refine (E.o _ w.o.st).mono ?_;rintro e6 X ⟨rfl,B⟩))
     exact ⟨rfl,rfl,w.o.fr.trans B⟩
    simp only [if_neg hz] at d;unfold zdf at d;have E:=zq (fun W' (y:PSt W' g T c toks (i+1+1))=>zeh W' g T c toks (i+1+1) _ (zdg toks aJ) zik y);by_cases h3:isT (tk toks (i+1+1)) zik=true
    ·rw [if_pos h3] at d;simp only [if_pos h3] at E;dsimp only at d;have aQ:=aB.o (i+1+1) aJ (zcc h3);cases hc:zcd toks k 0 (i+1+1+1) with
     | none=>rw [hc] at d;cases d
     | some r=>
     rw [hc] at d;have a6:=zq (fun W' y=>(zmm g T c toks aB.o k).1 W' (i+1+1+1) r aQ y hc);clear hc;cases r with
     | bad ke pe=>
      have d:=qaa d;subst d;go_wp2_with (first
       | (go_at_call 52;refine (D.o _ G.o.st).mono ?_;rintro e5 w5 ⟨⟨rfl,A⟩,q⟩;have u:=zq (G.o.move hg A q);obtain ⟨⟨u0,u1,-⟩,-,g1,-⟩:=zbd u.o.itm;have w:=zq (u.o.put hg O 1 (.string (tk toks (i+1)).text) (cells':=zcg z (tk toks (i+1)).text (tk toks i).place) rfl);clear A q D)
       | (go_at_call 53;refine (E.o _ w.o.st).mono ?_;rintro e6 X ⟨⟨rfl,I⟩,B⟩;have p:=zq (w.o.move hg I B);clear I B E)
       | (go_at_call 54;refine (a6.o _ p.o.st).mono ?_;rintro e7 w7 ⟨rfl,aP⟩))
      exact ⟨rfl,rfl,p.o.fr.trans aP⟩
     | ok x j=>
      have d:=qaa d;unfold zdf at d;by_cases h4:isT (tk toks j) ziz=true
      ·rw [if_pos h4] at d;subst d;simp only [PR.bind];have J:=zq (fun W' s y=>J.o W' j s y);simp only [if_pos h4] at J;have aM:=zq (fun s=>aB.o j s (zcc h4));go_wp2_with (first
        | (go_at_call 52;refine (D.o _ G.o.st).mono ?_;rintro e5 w5 ⟨⟨rfl,A⟩,q⟩;have u:=zq (G.o.move hg A q);obtain ⟨⟨u0,u1,-⟩,-,g1,-⟩:=zbd u.o.itm;have w:=zq (u.o.put hg O 1 (.string (tk toks (i+1)).text) (cells':=zcg z (tk toks (i+1)).text (tk toks i).place) rfl);clear A q D)
        | (go_at_call 53;refine (E.o _ w.o.st).mono ?_;rintro e6 X ⟨⟨rfl,I⟩,B⟩;have p:=zq (w.o.move hg I B);clear I B E)
        | (go_at_call 54;refine (a6.o _ p.o.st).mono ?_;rintro e7 w7 ⟨cs,L,rfl,U,hS,hF,s,hD,hd,a8⟩;obtain ⟨v3,v4,v5,v6,rfl,-,-,-,-,Y,n3,c3,Z,n4,c4,A5,n5,c5,A6,n6,c6,rfl,rfl,rfl,rfl⟩:=zay U;have af:=zq (p.o.move hg hS hF);obtain ⟨⟨k0,k1,k2,k3,k4,k5,k6,k7,k8,k9,aS⟩,l0,l1,l2,l3,l4,l5,l6,l7,l8,l9,l10⟩:=zbd af.o.itm;have a1:=zq (af.o.put8 hg O rfl (.int .i64 x.1.f0) (.string x.1.f1) (.string x.1.f2) (.slice Y n3 c3) (.slice Z n4 c4) (.slice A5 n5 c5) (.slice A6 n6 c6) (.int .i64 x.1.f7));have M:=zq (And.intro U (And.intro s a8));have au:=zq (show W.heap.size<X.heap.size/\w1.heap.size<X.heap.size from ⟨zam p.o.res,zam p.o.itm⟩);clear U hS hF s hD hd a8 a6)
        | (go_at_call 53;refine (J.o _ M.o.2.1 a1.o.st).mono ?_;rintro e8 w8 ⟨⟨rfl,aD⟩,a7⟩;have aA:=zq (a1.o.move hg aD a7);have aK:=zq a7;obtain ⟨⟨b0,b1,b2,b3,b4,b5,b6,b7,b8,b9,bd⟩,-⟩:=zbd aA.o.itm;obtain ⟨⟨y0,y1,y2,y3,y4,y5,y6,y7,y8,y9,bo⟩,z0,z1,z2,z3,z4,z5,z6,z7,z8,z9,bp⟩:=zbd aA.o.res;clear aD a7))
       have R1:=zij aA.o.res (.int .i64 z) (.string (tk toks (i+1)).text) (.int .i64 x.1.f0) (.string x.1.f1) (.string x.1.f2) (.slice Y n3 c3) (.slice Z n4 c4) (.slice A5 n5 c5) (.slice A6 n6 c6) (.int .i64 x.1.f7) (.int .i64 (tk toks i).place);have R3:=zez w8 W.heap.size (.int .i64 z) (.string (tk toks (i+1)).text) (.int .i64 x.1.f0) (.string x.1.f1) (.string x.1.f2) (.slice Y n3 c3) (.slice Z n4 c4) (.slice A5 n5 c5) (.slice A6 n6 c6) (.int .i64 x.1.f7) (.int .i64 (tk toks i).place);refine qaf (qat rfl _ _ W.heap.size 62 #[.int .i64 z,.string (tk toks (i+1)).text,.int .i64 x.1.f0,.string x.1.f1,.string x.1.f2,.slice Y n3 c3,.slice Z n4 c4,.slice A5 n5 c5,.slice A6 n6 c6,.int .i64 x.1.f7,.int .i64 (tk toks i).place] (0,0) _ rfl R1 underlying62 rfl kae) rfl ?_;exact zrw hg O M.o.1 M.o.2.1 M.o.2.2 au.o.1 au.o.2 af.o aA.o aK.o R3 (aM.o M.o.2.1)
      rw [if_neg h4] at d;subst d;simp only [PR.bind];have J:=zq (fun W' s y=>J.o W' j s y);simp only [if_neg h4] at J;go_wp2_with (first
       | (go_at_call 52;refine (D.o _ G.o.st).mono ?_;rintro e5 w5 ⟨⟨rfl,A⟩,q⟩;have u:=zq (G.o.move hg A q);obtain ⟨⟨u0,u1,-⟩,-,g1,-⟩:=zbd u.o.itm;have w:=zq (u.o.put hg O 1 (.string (tk toks (i+1)).text) (cells':=zcg z (tk toks (i+1)).text (tk toks i).place) rfl);clear A q D)
       | (go_at_call 53;refine (E.o _ w.o.st).mono ?_;rintro e6 X ⟨⟨rfl,I⟩,B⟩;have p:=zq (w.o.move hg I B);clear I B E)
       | (go_at_call 54;refine (a6.o _ p.o.st).mono ?_;rintro e7 w7 ⟨cs,L,rfl,U,hS,hF,s,hD,hd,a8⟩;obtain ⟨v3,v4,v5,v6,rfl,-,-,-,-,Y,n3,c3,Z,n4,c4,A5,n5,c5,A6,n6,c6,rfl,rfl,rfl,rfl⟩:=zay U;have af:=zq (p.o.move hg hS hF);obtain ⟨⟨k0,k1,k2,k3,k4,k5,k6,k7,k8,k9,aS⟩,l0,l1,l2,l3,l4,l5,l6,l7,l8,l9,l10⟩:=zbd af.o.itm;have a1:=zq (af.o.put8 hg O rfl (.int .i64 x.1.f0) (.string x.1.f1) (.string x.1.f2) (.slice Y n3 c3) (.slice Z n4 c4) (.slice A5 n5 c5) (.slice A6 n6 c6) (.int .i64 x.1.f7));have M:=zq (And.intro U (And.intro s a8));have au:=zq (show W.heap.size<X.heap.size/\w1.heap.size<X.heap.size from ⟨zam p.o.res,zam p.o.itm⟩);clear U hS hF s hD hd a8 a6)
       | (go_at_call 53;refine (J.o _ M.o.2.1 a1.o.st).mono ?_;rintro e8 w8 ⟨rfl,a7⟩))
      exact ⟨rfl,rfl,a1.o.fr.trans a7⟩
    rw [if_neg h3] at d;simp only [if_neg h3] at E;have d:=qaa d;subst d;go_wp2_with (first
     | (go_at_call 52;refine (D.o _ G.o.st).mono ?_;rintro e5 w5 ⟨⟨rfl,A⟩,q⟩;have u:=zq (G.o.move hg A q);obtain ⟨⟨u0,u1,-⟩,-,g1,-⟩:=zbd u.o.itm;have w:=zq (u.o.put hg O 1 (.string (tk toks (i+1)).text) (cells':=zcg z (tk toks (i+1)).text (tk toks i).place) rfl);clear A q D)
     | (go_at_call 53;refine (E.o _ w.o.st).mono ?_;rintro e6 X ⟨rfl,B⟩))
    exact ⟨rfl,rfl,w.o.fr.trans B⟩
   rw [if_neg h2] at d;simp only [if_neg h2] at D;have d:=qaa d;subst d;go_wp2_with (go_at_call 52;refine (D.o _ G.o.st).mono ?_;rintro e5 w5 ⟨rfl,q⟩);exact ⟨rfl,rfl,G.o.fr.trans q⟩
 rw [if_neg hk] at d;have d:=qaa d;subst d;clear aR;go_wp2_with (go_at_call 51;refine (aL.o _ 90 ad.o.st).mono ?_;rintro e5 w5 ⟨rfl,aF⟩);exact ⟨rfl,rfl,ad.o.fr.trans (Fr.of_below aF)⟩
end
end
section
def gB (k:Int) (b:UInt8):Bool:=zeu k (b.toNat:Int)
def runS (k:Int):List UInt8->Nat
 | []=>0
 | _::r=>1+(r.takeWhile (gB k)).length
theorem zse (s:ByteArray) (i:Nat) (h:i<s.size):(bl s)[i]'(by rw [zbi];exact h)=s[i]'h:=rfl
theorem zpu (k c:Int) (hk:k≠2) (o:128<=c):zeu k c=false:=by
 unfold zeu;by_cases h1:k=1
 ·rw [if_pos h1];have:zaw c=0:=by unfold zaw;repeat rw [if_neg kab]
  rw [this];rfl
 rw [if_neg h1,if_neg hk];by_cases d:k=3
 ·rw [if_pos d,qai kab]
 rw [if_neg d];by_cases e:k=4
 ·rw [if_pos e,qai kab]
 rw [if_neg e];by_cases n:k=5
 ·rw [if_pos n,qai kab]
 rw [if_neg n]
theorem zkj (s:ByteArray) (pos:Nat) (h:pos<s.size) (r:128<=(s[pos]'h).toNat):∀ j,j<(Utf8.decode s pos).2->∃ n:pos+j<s.size,128<=(s[pos+j]'n).toNat:=by
 have o:∀ k,(decide (pos+k<s.size)&&((s.get! (pos+k)).toNat/64==2))=true->∃ n:pos+k<s.size,128<=(s[pos+k]'n).toNat:=by
  intro k hk;simp only [qbd,decide_eq_true_eq,qaq] at hk;refine ⟨hk.1,?_⟩;have e:s.get! (pos+k)=s[pos+k]'hk.1:=get_at s (pos+k) hk.1;have:=hk.2;rw [e] at this;omega
 have zero:∃ n:pos+0<s.size,128<=(s[pos+0]'n).toNat:=⟨h,r⟩;intro j d;have q:s.get! (pos+0)=s[pos]'h:=get_at s pos h;unfold Utf8.decode at d;simp only [q] at d;rw [if_neg kab] at d;have one:j<1->∃ n:pos+j<s.size,128<=(s[pos+j]'n).toNat:=fun h1=>by
  obtain rfl:j=0:=kab;exact zero
 split at d
 ·rename_i c;simp only [qbd] at c;have p:=o 1 (by simpa using c.2);split at d
  ·have d:j<2:=d
   match j,d with
   | 0,_=>exact zero
   | 1,_=>exact p
  exact one d
 split at d
 ·rename_i c;simp only [qbd] at c;have p:=o 1 (by simpa using c.1.2);have c2:=o 2 (by simpa using c.2);split at d
  ·have d:j<3:=d
   match j,d with
   | 0,_=>exact zero
   | 1,_=>exact p
   | 2,_=>exact c2
  exact one d
 split at d
 ·rename_i c;simp only [qbd] at c;have p:=o 1 (by simpa using c.1.1.2);have c2:=o 2 (by simpa using c.1.2);have c3:=o 3 (by simpa using c.2);split at d
  ·have d:j<4:=d
   match j,d with
   | 0,_=>exact zero
   | 1,_=>exact p
   | 2,_=>exact c2
   | 3,_=>exact c3
  exact one d
 exact one d
theorem take_many (p:UInt8->Bool):∀ (w:Nat) (l:List UInt8),w<=l.length->(∀ j (h:j<l.length),j<w->p l[j]=true)->(l.takeWhile p).length=w+((l.drop w).takeWhile p).length:=by
 intro w;induction w with
 | zero=>intro l _ _;simp
 | succ w n=>
  intro l d hp
  match l,d with
  | a::l,d=>
   have e:p a=true:=hp 0 (by simp) kab;rw [qbx e,qay,List.drop_succ_cons,n l (by simpa using d) (fun j h o=>by have:=hp (j+1) (by simpa using h) kab;simpa using this)];omega
theorem zrk (k:Int) (s:ByteArray):∀ (e pos:Nat),0<pos->pos<=s.size->s.size-pos+1<=e->lex_run.go k s e pos=some (((pos+(((bl s).drop pos).takeWhile (gB k)).length:Nat)):Int):=by
 have E:=zbi s;intro e;induction e using Nat.strongRecOn with
 | ind e p=>
  intro pos r hp hf;obtain ⟨f,rfl⟩:∃ m,e=m+1:=⟨e-1,kab⟩;rw [lex_run.go];by_cases d:pos<s.size
  ·rw [if_pos d,if_pos r,lex_goes_eq];simp only [qak];have hd:=zel (bl s) pos kab;by_cases u:(s[pos]'d).toNat<128
   ·have y:=decode_ascii s pos d u;rw [y,hd];show (if zeu k (((s[pos]'d).toNat:Nat):Int)=true then _ else _)=_;by_cases hg:zeu k (((s[pos]'d).toNat:Nat):Int)=true
    ·rw [if_pos hg,qbx (show gB k (bl s)[pos]=true from hg),p f kab (pos+1) kab kab kab,qay];congr 2;omega
    rw [if_neg hg,qby (show ¬gB k (bl s)[pos]=true from hg)];rfl
   obtain ⟨x,A⟩:=decode_high s pos d kab;by_cases n:k=2
   ·subst n;have o:=zkj s pos d kab;generalize (Utf8.decode s pos).2=w at A o;generalize (Utf8.decode s pos).1=c at x;have hg:zeu 2 (c:Int)=true:=(by show (if (2:Int)=1 then _ else if (2:Int)=2 then _ else _)=true;rw [if_neg kad,if_pos rfl];rw [qax];omega);rw [if_pos hg];obtain ⟨D,_⟩:=o (w-1) kab;rw [p f kab (pos+w) kab kab kab];rw [take_many (gB 2) w ((bl s).drop pos) kbf (fun j h z=>?_),List.drop_drop]
    ·congr 2;omega
    obtain ⟨q,B⟩:=o j z;rw [List.getElem_drop];show zeu 2 (((bl s)[pos+j].toNat:Nat):Int)=true;rw [zse s (pos+j) q];show (if (2:Int)=1 then _ else if (2:Int)=2 then _ else _)=true;rw [if_neg kad,if_pos rfl,qax];omega
   rw [zpu k _ n kab,if_neg kad,hd,qby]
   ·rfl
   show ¬zeu k (((bl s)[pos].toNat:Nat):Int)=true;rw [zse s pos d,zpu k _ n kab];decide
  rw [if_neg d,qav kab];have:pos=s.size:=kab;simp [this]
theorem zjw (k:Int) (s:ByteArray) (n:s.size<=9223372036854775807) (d:0<s.size) (e:(s[0]'d).toNat<128):lex_run.f k s=some ((runS k (bl s):Nat):Int):=by
 have o:=zbi s;unfold lex_run.f;rw [if_pos n,lex_run.go,if_pos d,if_neg kab,decode_ascii s 0 d e];show lex_run.go k s s.size (0+1)=_;rw [zrk k s s.size 1 kab kab kab];have hd:=zel (bl s) 0 kab;rw [List.drop_zero] at hd
 conv=>rhs;rw [hd]
 rfl
theorem runS_all (k:Int) (b:UInt8) (r:List UInt8):runS k (b::r)=(b::r).length↔r.all (gB k)=true:=by
 show 1+(r.takeWhile (gB k)).length=r.length+1↔_;constructor
 ·intro h;have h1:r.takeWhile (gB k)=r:=List.IsPrefix.eq_of_length (List.takeWhile_prefix _) kab;rw [<-h1];exact List.all_takeWhile
 intro h;have:r.takeWhile (gB k)=r:=by
  clear b;induction r with
  | nil=>rfl
  | cons a r d=>
   simp only [List.all_cons,qbd] at h;rw [qbx h.1,d h.2]
 rw [this];omega
end
section
def zis (s:ByteArray):Bool:=
 match bl s with
 | []=>false
 | b::r=>decide (97<=(b.toNat:Int)/\(b.toNat:Int)<=122)&&(r.all (gB 3)&&(decide (s.size<=32)&&!zir s))
theorem zlb (c:Int) (d:0<=c) (h1:c<256):wrap32 c=c:=by unfold wrap32;omega
theorem toList_bl (s:ByteArray):s.toList=bl s:=Lib.toList_data s
theorem zkl (c:Int):zaw c=3↔97<=c/\c<=122:=by
 unfold zaw;constructor
 ·intro h;split at h
  ·cases h
  split at h
  ·cases h
  split at h
  ·assumption
  split at h
  ·cases h
  split at h
  ·cases h
  split at h
  ·cases h
  split at h<;>cases h
 intro h;rw [if_neg kab,if_neg kab,if_pos h]
theorem lex_isname_eq (s:ByteArray) (y:s.size<=140737488351232) (k:Nat) (hk:100<=k):lex_IsName.f k s=some (zis s):=by
 have n:=zbi s;unfold lex_IsName.f zis;rw [toList_bl]
 match d:bl s with
 | []=>rw [if_pos rfl]
 | b::r=>
  rw [d] at n;have o:0<s.size:=by rw [<-n];simp
  have w:bt s 0=(b.toNat:Int):=by
   have:=zfl s 0 (by rw [d];simp);simpa [d] using this
  have hg:s[0]'o=b:=by
   have h1:=zse s 0 o;rw [<-h1];simp [d]
  have x:=b.toNat_lt;rw [if_neg (by simp),if_pos kab,w,zlb _ kab kab,zgw];simp only [qak];by_cases hs:97<=(b.toNat:Int)/\(b.toNat:Int)<=122
  ·rw [if_pos ((zkl _).2 hs),zjw 3 s kab o (by rw [hg];omega),d];simp only [qak];have u:=runS_all 3 b r;rw [qab hs,Bool.true_and];by_cases hr:r.all (gB 3)=true
   ·have p:(runS 3 (b::r):Int)=(s.size:Int):=(by rw [u.2 hr,n]);rw [if_pos p,hr,Bool.true_and];by_cases q:(s.size:Int)<=32
    ·rw [if_pos q,zje s k hk,qab (show s.size<=32 by omega)];rfl
    rw [if_neg q,qai (show ¬s.size<=32 by omega)];rfl
   have p:¬(runS 3 (b::r):Int)=(s.size:Int):=fun e=>hr (u.1 (by rw [n];omega));rw [if_neg p,qbc.2 hr];rfl
  rw [if_neg (fun e=>hs ((zkl _).1 e)),qai hs];rfl
theorem ztg (c:Int):zeu 3 c=decide (97<=c/\c<=122\/48<=c/\c<=57\/c=95\/c=45):=by
 unfold zeu;rw [if_neg kad,if_neg kad,if_pos rfl]
theorem ztf (c:Int):zeu 4 c=decide (65<=c/\c<=90):=by
 unfold zeu;rw [if_neg kad,if_neg kad,if_neg kad,if_pos rfl]
theorem zoq (c:Int):zeu 5 c=decide (48<=c/\c<=57\/c=46\/c=47):=by
 unfold zeu;rw [if_neg kad,if_neg kad,if_neg kad,if_neg kad,if_pos rfl]
def zfz (k c:Int):Bool:=if k=1 then zeu 3 c else if k=2 then zeu 4 c else zeu 5 c
theorem zkc (c:Int):lychgateref08_small.f c=some (decide (97<=c/\c<=122)):=zrg c
theorem zke (c:Int):lychgateref08_great.f c=some (decide (65<=c/\c<=90)):=zsa c
theorem zkf (c:Int):lychgateref08_digit.f c=some (decide (48<=c/\c<=57)):=zot c
theorem ref_within_eq (k c:Int):lychgateref08_within.f k c=some (zfz k c):=by
 unfold lychgateref08_within.f;rw [zkc,zkf,zke];simp only [qak];unfold zfz;by_cases h1:k=1
 ·rw [if_pos h1,if_pos h1,ztg];by_cases a:97<=c/\c<=122
  ·rw [if_pos (qab a),qab (.inl a)]
  rw [if_neg (by simpa using a)];by_cases b:48<=c/\c<=57
  ·rw [if_pos (qab b),qab (.inr (.inl b))]
  rw [if_neg (by simpa using b)];by_cases d:c=95
  ·rw [if_pos d,qab (.inr (.inr (.inl d)))]
  rw [if_neg d];by_cases e:c=45
  ·rw [qab (.inr (.inr (.inr e)))];simp [e]
  rw [qai kab];simp [e]
 rw [if_neg h1,if_neg h1];by_cases n:k=2
 ·rw [if_pos n,if_pos n,ztf]
 rw [if_neg n,if_neg n,zoq];by_cases b:48<=c/\c<=57
 ·rw [if_pos (qab b),qab (.inl b)]
 rw [if_neg (by simpa using b)];by_cases d:c=46
 ·rw [if_pos d,qab (.inr (.inl d))]
 rw [if_neg d];by_cases e:c=47
 ·rw [qab (.inr (.inr e))];simp [e]
 rw [qai kab];simp [e]
theorem ref_run_l0 (m:Int) (s:ByteArray) (q:s.size<=140737488351232):∀ (d pos k:Nat),pos+d=s.size->d+1<=k->lychgateref08_run.l0 k m s (pos:Int)=some ((pos+(((bl s).drop pos).takeWhile fun b=>zfz m (b.toNat:Int)).length:Nat):Int):=by
 have o:=zbi s;intro d;induction d with
 | zero=>
  intro pos k hp hk;obtain ⟨k,rfl⟩:∃ m,k=m+1:=⟨k-1,kab⟩;simp only [lychgateref08_run.l0];rw [if_neg kab,qav kab];simp
 | succ d n=>
  intro pos k hp hk;obtain ⟨k,rfl⟩:∃ m,k=m+1:=⟨k-1,kab⟩;have e:pos<(bl s).length:=kab;simp only [lychgateref08_run.l0];rw [if_pos kab,if_pos kab,zfl s pos e,ref_within_eq,zel _ pos e];simp only [qak];by_cases h:zfz m ((bl s)[pos].toNat:Int)=true
  ·rw [if_pos h,zcn pos kab,n (pos+1) k kab kab,qbx (p:=fun b:UInt8=>zfz m (b.toNat:Int)) h,qay];congr 2;omega
  rw [if_neg h,qby (p:=fun b:UInt8=>zfz m (b.toNat:Int)) h];rfl
theorem ref_run_eq (m:Int) (s:ByteArray) (d:s.size<=140737488351232) (pos k:Nat) (hp:pos<=s.size) (hk:s.size+1<=k):lychgateref08_run.f k m s (pos:Int)=some ((pos+(((bl s).drop pos).takeWhile fun b=>zfz m (b.toNat:Int)).length:Nat):Int):=
 ref_run_l0 m s d (s.size-pos) pos k kab kab
end
section
theorem zol (l:List UInt8):strOfNums (l.map fun b=>(b.toNat:Int))=toS l:=Go.Lib.Lz.strOfNums_map l
theorem zuz (l:List UInt8):bl (toS l)=l:=rfl
theorem zum (s:ByteArray):toS (bl s)=s:=rfl
def qdS:List UInt8->Option (List UInt8×Nat)
 | []=>none
 | [c]=>if c.toNat=34 then some ([],1) else none
 | c::d::r=>
  if c.toNat=34 then some ([],1)
  else if c.toNat=92 then (if d.toNat=34\/d.toNat=92 then (qdS r).map (fun x=>(d::x.1,x.2+2)) else none)
  else if c.toNat<32\/126<c.toNat then none
  else (qdS (d::r)).map (fun x=>(c::x.1,x.2+1))
theorem zog (c:UInt8) (r:List UInt8) (h:c.toNat=34):qdS (c::r)=some ([],1):=by
 cases r<;>simp [qdS,h]
theorem zof (c d:UInt8) (r:List UInt8) (h:c.toNat=92):qdS (c::d::r)=if d.toNat=34\/d.toNat=92 then (qdS r).map (fun x=>(d::x.1,x.2+2)) else none:=by
 simp [qdS,h]
theorem zlr (c:UInt8) (r:List UInt8) (h:c.toNat<32\/126<c.toNat):qdS (c::r)=none:=by
 cases r with
 | nil=>simp only [qdS];rw [if_neg kab]
 | cons d r=>simp only [qdS];rw [if_neg kab,if_neg kab,if_pos h]
theorem zku (c:UInt8) (r:List UInt8) (h1:c.toNat≠34) (e:c.toNat≠92) (h:¬(c.toNat<32\/126<c.toNat)):qdS (c::r)=(qdS r).map (fun x=>(c::x.1,x.2+1)):=by
 cases r with
 | nil=>simp only [qdS];rw [if_neg h1];rfl
 | cons d r=>simp only [qdS];rw [if_neg h1,if_neg e,if_neg h]
def qdR (acc:List UInt8) (i:Nat):Option (List UInt8×Nat)->ByteArray×Int×Bool
 | some (o,n)=>(toS (acc++o),((i+n:Nat):Int),decide ((acc++o).length<=200))
 | none=>((⟨#[]⟩:ByteArray),0,false)
theorem zhu (acc:List UInt8) (c:UInt8) (i m:Nat) (x:Option (List UInt8×Nat)):qdR (acc++[c]) (i+m) x=qdR acc i (x.map fun x=>(c::x.1,x.2+m)):=by
 cases x with
 | none=>rfl
 | some x=>
  simp only [qdR,Option.map_some,qbt,List.cons_append,qbw];rw [show i+m+x.2=i+(x.2+m) by omega]
theorem quoted_l0 (s:ByteArray) (G:s.size<=8000):∀ (d i k:Nat) (acc:List UInt8),i+d=(bl s).length->d+1<=k->acc.length<=i ->
  lex_quoted.l0 k s (acc.map fun b=>(b.toNat:Int)) (i:Int)=some (qdR acc i (qdS ((bl s).drop i))):=by
 have E:=zbi s;intro d;induction d using Nat.strongRecOn with
 | _ d u=>
 intro i k acc hi hk B;obtain ⟨k,rfl⟩:∃ m,k=m+1:=⟨k-1,kab⟩;have A:(acc.map fun b=>(b.toNat:Int)).length=acc.length:=qcc ..;simp only [lex_quoted.l0];by_cases hd:d=0
 ·rw [if_neg kab,qav kab];rfl
 have q:i<(bl s).length:=kab;rw [if_pos kab,if_pos kab,zfl s i q,zcn i kab,zel _ i q];have y:=(bl s)[i].toNat_lt;generalize (bl s)[i]=c at y;by_cases n:c.toNat=34
 ·rw [if_pos kab,zog _ _ n,zol,A];simp [qdR];omega
 rw [if_neg kab];have snoc:∀ e:UInt8,(acc.map fun b=>(b.toNat:Int))++[(e.toNat:Int)]=(acc++[e]).map fun b=>(b.toNat:Int):=fun e=>by simp
 have p:∀ e:UInt8,(acc++[e]).length=acc.length+1:=fun e=>by simp
 by_cases o:c.toNat=92
 ·rw [if_pos kab];by_cases D:i+1=(bl s).length
  ·rw [if_pos kab,qav kab];simp only [qdS];rw [if_neg n];rfl
  have r:i+1<(bl s).length:=kab;rw [if_neg kab,if_pos kab,if_pos kab,zfl s (i+1) r,zcn (i+1) kab,zel _ (i+1) r,zof _ _ _ o];have z:=(bl s)[i+1].toNat_lt;generalize (bl s)[i+1]=e at z;have key:=fun (h:e.toNat=34\/e.toNat=92)=>u (d-2) kab (i+2) k (acc++[e]) kab kab (by rw [p];omega);rw [show i+1+1=i+2 by omega,snoc];by_cases g:e.toNat=34
  ·rw [if_pos kab,if_pos kab,if_pos (.inl g),key (.inl g),zhu]
  rw [if_neg kab];by_cases g2:e.toNat=92
  ·rw [if_pos kab,if_pos kab,if_pos (.inr g2),key (.inr g2),zhu]
  rw [if_neg kab,if_neg kab];rfl
 rw [if_neg kab];by_cases x:c.toNat<32
 ·rw [if_pos kab,zlr _ _ (.inl x)];rfl
 rw [if_neg kab];by_cases w:126<c.toNat
 ·rw [if_pos kab,zlr _ _ (.inr w)];rfl
 rw [if_neg kab,if_pos kab,snoc,zku _ _ n o kab,u (d-1) kab (i+1) k (acc++[c]) kab kab (by rw [p];omega),zhu]
theorem quoted_ev (s:ByteArray) (d:s.size<=8000) (e:0<s.size) (k:Nat) (hk:s.size+1<=k):lex_quoted.f k s=some (qdR [] 1 (qdS ((bl s).drop 1))):=by
 have n:=zbi s;have:=quoted_l0 s d ((bl s).length-1) 1 k [] kab kab (by simp);exact this
theorem zsu:∀ (m:Nat) (u:List UInt8) (o:List UInt8) (n:Nat),u.length<=m->qdS u=some (o,n)->n<=u.length/\0<n/\∀ v:List UInt8,qdS (u.take n++v)=some (o,n):=by
 intro m;induction m with
 | zero=>
  intro u o n s h
  match u with
  | []=>cases h
  | c::r=>rw [qay] at s;omega
 | succ m A=>
  intro u o n s h
  match u with
  | []=>cases h
  | c::r=>
   rw [qay] at s;by_cases p:c.toNat=34
   ·rw [zog c r p] at h;obtain ⟨rfl,rfl⟩:=qcb (qaa h);refine ⟨by simp,kad,fun v=>?_⟩;exact zog c v p
   by_cases q:c.toNat=92
   ·match r with
    | []=>simp only [qdS] at h;rw [if_neg p] at h;cases h
    | e::r=>
     rw [zof c e r q] at h;rw [qay] at s;by_cases y:e.toNat=34\/e.toNat=92
     ·rw [if_pos y] at h
      match d:qdS r with
      | none=>rw [d] at h;cases h
      | some (z,n')=>
       rw [d] at h;obtain ⟨rfl,rfl⟩:=qcb (qaa h);obtain ⟨h1,B,w⟩:=A r z n' kab d;refine ⟨kbv,kab,fun v=>?_⟩;show qdS (c::e::(r.take n'++v))=_;rw [zof c e _ q,if_pos y,w v];rfl
     rw [if_neg y] at h;cases h
   by_cases x:c.toNat<32\/126<c.toNat
   ·rw [zlr c r x] at h;cases h
   rw [zku c r p q x] at h
   match d:qdS r with
   | none=>rw [d] at h;cases h
   | some (z,n')=>
    rw [d] at h;obtain ⟨rfl,rfl⟩:=qcb (qaa h);obtain ⟨h1,B,w⟩:=A r z n' kab d;refine ⟨kbv,kab,fun v=>?_⟩;show qdS (c::(r.take n'++v))=_;rw [zku c _ p q x,w v];rfl
def numS (x:ByteArray):Int×ByteArray×Int×Int×Int×Int×Bool:=(lex_numbered.f x).getD (0,⟨#[]⟩,0,0,0,0,false)
theorem cut_size (s d:List UInt8):(Lib.cut s d).1.length<=s.length/\(Lib.cut s d).2.1.length<=s.length:=by
 unfold Lib.cut;split
 ·exact ⟨by rw [qbi];omega,kbf⟩
 exact ⟨qad _,Nat.zero_le _⟩
theorem zcw (l:List UInt8):(toS l).size=l.length:=rfl
theorem addr_parse_some (x:ByteArray) (d:x.size<=8000):∃ r,addr_Parse.f x=some r:=by
 unfold addr_Parse.f;rw [if_pos kab];exact ⟨_,rfl⟩
theorem addr_number_some (x:ByteArray) (m:Int) (e:x.size<=8000) (d:m<=4294967295):∃ r,addr_number.f x m=some r:=by
 unfold addr_number.f;rw [if_pos ⟨kab,d⟩];exact ⟨_,rfl⟩
theorem prefix_some (x:ByteArray) (o:x.size<=8000):∃ r,addr_ParsePrefix.f x=some r:=by
 have n:x.data.toList.length=x.size:=zbi x;unfold addr_ParsePrefix.f strings_Cut.f;rw [if_pos kab];simp only [qak];have d:=cut_size x.data.toList (ByteArray.mk #[47]).data.toList;generalize Lib.cut x.data.toList (ByteArray.mk #[47]).data.toList=y at d;obtain ⟨p,hp⟩:=addr_parse_some (toS y.1) (by rw [zcw];omega);obtain ⟨q,e⟩:=addr_number_some (toS y.2.1) 32 (by rw [zcw];omega) kad;rw [hp,e];simp only [qak,addr_right.f]
 repeat' (first|exact ⟨_,rfl⟩|split)
theorem num_ev (x:ByteArray) (e:x.size<=8000) (d:x.data.toList.all (fun b=>decide (b.toNat<128))=true):lex_numbered.f x=some (numS x):=by
 have:∃ r,lex_numbered.f x=some r:=by
  unfold lex_numbered.f strings_ContainsAny.f;rw [if_pos ⟨kab,kad,d,kad⟩];simp only [qak];split
  ·obtain ⟨r,hr⟩:=prefix_some x e;rw [hr];exact ⟨_,rfl⟩
  rw [if_pos kab];exact ⟨_,rfl⟩
 obtain ⟨r,h⟩:=this;rw [numS,h];rfl
def finS (i:Int) (x:ByteArray):Int ⊕ (S49×Nat):=
 if i=3 then (if zir x=true then .inr (⟨1,x,0,⟨0,0⟩,0⟩,x.size) else if x.size>32 then .inl 82 else .inr (⟨2,x,0,⟨0,0⟩,0⟩,x.size))
 else if i=4 then (if x.size>16 then .inl 82 else .inr (⟨3,x,0,⟨0,0⟩,0⟩,x.size))
 else if i=5 then (if (numS x).2.2.2.2.2.2=true then .inr (⟨(numS x).1,(numS x).2.1,(numS x).2.2.1,⟨(numS x).2.2.2.1,(numS x).2.2.2.2.1⟩,0⟩,x.size) else .inl 81)
 else if i=7 then .inr (⟨7,x,0,⟨0,0⟩,0⟩,x.size)
 else .inr (⟨0,x,0,⟨0,0⟩,0⟩,x.size)
def tokS:List UInt8->Int ⊕ (S49×Nat)
 | [] => .inl 80
 | b::r=>
  if zaw (b.toNat:Int)=6 then
   match qdS r with
   | some (o,n)=>if o.length<=200 then .inr (⟨6,toS o,0,⟨0,0⟩,0⟩,n+1) else .inl 83
   | none => .inl 83
  else if zaw (b.toNat:Int)=0 then .inl 80
  else finS (zaw (b.toNat:Int)) (toS ((b::r).take (runS (zaw (b.toNat:Int)) (b::r))))
theorem zhh (i:Int) (l:List UInt8):runS i l<=l.length:=by
 cases l with
 | nil=>exact qad _
 | cons b r=>
  have:=(List.takeWhile_prefix (gB i) (l:=r)).length_le;show 1+_<=r.length+1;omega
theorem zkt (i:Int) (b:UInt8) (r:List UInt8):0<runS i (b::r):=by
 show 0<1+_;omega
theorem run_some (i:Int) (s:ByteArray) (q:s.size<=8000) (d:0<s.size):∃ r:Nat,lex_run.f i s=some (r:Int)/\r<=s.size:=by
 have n:=zbi s;by_cases e:(s[0]'d).toNat<128
 ·exact ⟨_,zjw i s kab d e,by rw [<-n];exact zhh _ _⟩
 unfold lex_run.f;rw [if_pos kab,lex_run.go,if_pos d,if_neg kab];have o:=lex_run.width s 0 d;have hd:=zkj s 0 d kab;generalize (Utf8.decode s 0).2=w at o hd;obtain ⟨p,_⟩:=hd (w-1) kab;rw [zrk i s s.size (0+w) kab kab kab];refine ⟨_,rfl,?_⟩;have:=(List.takeWhile_prefix (gB i) (l:=(bl s).drop (0+w))).length_le;rw [qbv] at this;omega
theorem zth (b:UInt8) (h:gB 5 b=true):b.toNat<128:=by
 unfold gB zeu at h;rw [if_neg kad,if_neg kad,if_neg kad,if_neg kad,if_pos rfl] at h;have:=qbl h;omega
theorem begins_5 (c:Int) (h:zaw c=5):48<=c/\c<=57:=by
 unfold zaw at h;split at h
 ·cases h
 split at h
 ·cases h
 split at h
 ·cases h
 split at h
 ·cases h
 split at h
 ·assumption
 split at h
 ·cases h
 split at h<;>cases h
theorem begins_high (c:Int) (h:128<=c):zaw c=0:=by unfold zaw;repeat rw [if_neg kab]
theorem zfe (s:ByteArray) (n:Nat):s.extract 0 n=toS ((bl s).take n):=by
 apply ByteArray.ext;apply Array.toList_inj.1;simp [toS,bl,ByteArray.data_extract,Array.toList_extract]
theorem zki (s:ByteArray) (n:Nat):s.extract n s.size=toS ((bl s).drop n):=by
 apply ByteArray.ext;apply Array.toList_inj.1;simp [toS,bl,ByteArray.data_extract,Array.toList_extract];exact List.take_of_length_le (by rw [qbv,show s.data.toList.length=s.size from zbi s];omega)
theorem zlo (i:Int) (b:UInt8) (r:List UInt8):(b::r).take (runS i (b::r))=b::r.takeWhile (gB i):=by
 have e:runS i (b::r)=(r.takeWhile (gB i)).length+1:=by show 1+_=_;omega
 rw [e,List.take_succ_cons,<-(List.prefix_iff_eq_take).1 (List.takeWhile_prefix (gB i))]
theorem token_ev (s:ByteArray) (X:s.size<=8000) (w:0<s.size) (k:Nat) (hk:9000<=k) :
  match tokS (bl s) with
  | .inl e=>e≠0/\∃ v,lex_token.f k s=some v/\v.2.2.2.2.2.2.2=e
  | .inr (t,n)=>0<n/\n<=s.size/\∃ z,lex_token.f k s=some (t.f0,t.f1,t.f2,t.f3.f0,t.f3.f1,z,(n:Int),0):=by
 have G:=zbi s;unfold lex_token.f
 match d:bl s with
 | []=>rw [d] at G;simp at G;omega
 | b::r=>
  have Y:bt s 0=(b.toNat:Int):=by
   have:=zfl s 0 (by rw [d];simp);simpa [d] using this
  have hg:s[0]'w=b:=by
   have h1:=zse s 0 w;rw [<-h1];simp [d]
  have a1:=b.toNat_lt;rw [if_pos kab,Y,zlb _ kab kab,zgw];simp only [qak,tokS];by_cases y:zaw (b.toNat:Int)=6
  ·rw [if_pos y,if_pos y,quoted_ev s X w k kab,d];simp only [qak,List.drop_succ_cons,List.drop_zero]
   match hq:qdS r with
   | none=>exact ⟨kad,_,rfl,rfl⟩
   | some (o,n)=>
    simp only [qdR,qbw];have hn:n<=r.length:=(zsu r.length r o n (qad _) hq).1;have ad:(b::r).length=s.size:=(by rw [<-d,G]);rw [qay] at ad;by_cases hh:o.length<=200
    ·rw [if_pos hh];refine ⟨kab,kab,0,(if_pos (qab hh)).trans ?_⟩;rw [Nat.add_comm 1 n]
    rw [if_neg hh];exact ⟨kad,_,if_neg (by simpa using hh),rfl⟩
  rw [if_neg y,if_neg y];by_cases u:zaw (b.toNat:Int)=0
  ·obtain ⟨x,O,a7⟩:=run_some (zaw (b.toNat:Int)) s X w;rw [if_pos u,O,u];simp only [qak];rw [if_pos kab,if_pos kab,if_neg kad,if_neg kad,if_neg kad,if_neg kad,if_pos trivial];exact ⟨kad,_,rfl,rfl⟩
  rw [if_neg u];have U:b.toNat<128:=by
   rcases Nat.lt_or_ge b.toNat 128 with h|h
   ·exact h
   exact absurd (begins_high _ kab) u
  rw [zjw _ s kab w (by rw [hg];exact U),d];have Z:=zhh (zaw (b.toNat:Int)) (b::r);have af:=zkt (zaw (b.toNat:Int)) b r;have a6:(b::r).length=s.size:=by rw [<-d,G]
  have J:zaw (b.toNat:Int)=5->(toS ((b::r).take (runS (zaw (b.toNat:Int)) (b::r)))).data.toList.all (fun b=>decide (b.toNat<128))=true:=by
   intro p;rw [p,zlo];show (b::r.takeWhile (gB 5)).all _=true;rw [List.all_cons,qab U,Bool.true_and,qbn];intro x O;exact qab (zth x (qbn.1 List.all_takeWhile x O))
  generalize hR:runS (zaw (b.toNat:Int)) (b::r)=R at Z af J;generalize hI:zaw (b.toNat:Int)=I at u y J;simp only [qak];rw [if_pos kab,if_pos kab,qau,zfe,d];have q:(toS ((b::r).take R)).size=R:=by rw [zcw,qbi];omega
  generalize toS ((b::r).take R)=x at q J;unfold finS;by_cases B:I=3
  ·rw [if_pos B,if_pos B,zje x k kab];simp only [qak];by_cases M:zir x=true
   ·rw [if_pos M,if_pos M];exact ⟨kab,kab,0,by rw [q]⟩
   rw [if_neg M,if_neg M];by_cases A:x.size>32
   ·rw [if_pos A,if_pos kab];exact ⟨kad,_,rfl,rfl⟩
   rw [if_neg A,if_neg kab];exact ⟨kab,kab,0,by rw [q]⟩
  rw [if_neg B,if_neg B];by_cases D:I=4
  ·rw [if_pos D,if_pos D];by_cases A:x.size>16
   ·rw [if_pos A,if_pos kab];exact ⟨kad,_,rfl,rfl⟩
   rw [if_neg A,if_neg kab];exact ⟨kab,kab,0,by rw [q]⟩
  rw [if_neg D,if_neg D];by_cases p:I=5
  ·rw [if_pos p,if_pos p,num_ev x kab (J p)];simp only [qak];by_cases L:(numS x).2.2.2.2.2.2=true
   ·rw [if_pos L,if_pos L];exact ⟨kab,kab,_,by rw [q]⟩
   rw [if_neg L,if_neg L];exact ⟨kad,_,rfl,rfl⟩
  rw [if_neg p,if_neg p];by_cases E:I=7
  ·rw [if_pos E,if_pos E];exact ⟨kab,kab,0,by rw [q]⟩
  rw [if_neg E,if_neg E,if_neg u];exact ⟨kab,kab,0,by rw [q]⟩
end
section
def atS (t:S49) (p:Nat):S49:=⟨t.f0,t.f1,t.f2,t.f3,(p:Int)⟩
def endS (p:Nat):S49:=⟨8,⟨#[]⟩,0,⟨0,0⟩,(p:Int)⟩
def zfn:Nat->List UInt8->Nat->(Int×Nat) ⊕ List S49
 | 0,_,p => .inl (0,p)
 | _+1,[],p => .inr [endS p]
 | d+1,b::r,p=>
  match tokS (b::r) with
  | .inl e => .inl (e,p)
  | .inr (t,n)=>
   match zfn d ((b::r).drop n) (p+n) with
   | .inl x => .inl x
   | .inr ts => .inr (if t.f0=0 then ts else atS t p::ts)
def zlk (acc:List S49):(Int×Nat) ⊕ List S49->List S49×Int×Int
 | .inl (e,p)=>([],e,(p:Int))
 | .inr ts=>(acc++ts,0,0)
theorem scan_l0 (s:ByteArray) (J:s.size<=8000):∀ (d i k:Nat) (acc:List S49),s.size-i<d->i<=s.size->9000+d<=k->acc.length<=i ->
  lex_Scan.l0 k s acc (i:Int)=some (zlk acc (zfn d ((bl s).drop i) i)):=by
 have B:=zbi s;intro d;induction d with
 | zero=>intro i k acc h;omega
 | succ d y=>
  intro i k acc hd hi hk G;obtain ⟨k,rfl⟩:∃ m,k=m+1:=⟨k-1,kab⟩;simp only [lex_Scan.l0];by_cases A:i=s.size
  ·rw [if_neg kab,if_pos kab,qav kab,A];rfl
  have r:i<(bl s).length:=kab;have E:s.extract i s.size=toS ((bl s).drop i):=zki s i;have D:(toS ((bl s).drop i)).size=s.size-i:=by rw [zcw,qbv,B]
  have ht:=token_ev (toS ((bl s).drop i)) kab kab k kab;rw [zuz] at ht;rw [if_pos kab,if_pos kab,if_pos kab,qau,E];rw [zel _ i r] at ht ⊢;rw [zfn]
  match u:tokS ((bl s)[i]::(bl s).drop (i+1)) with
  | .inl e=>
   rw [u] at ht;obtain ⟨q,v,p,w⟩:=ht;rw [p];simp only [qak];rw [if_neg (by rw [w];exact q),w];rfl
  | .inr (t,n)=>
   rw [u] at ht;obtain ⟨q,hn,z,p⟩:=ht;rw [<-zel _ i r] at p hn ⊢;rw [D] at hn;rw [p];simp only [qak];rw [if_pos trivial,show wrap64 ((i:Int)+(n:Int))=((i+n:Nat):Int) by unfold wrap64;omega,List.drop_drop];by_cases o:t.f0=0
   ·rw [if_pos o,y (i+n) k acc kab kab kab kab];simp only [if_pos o];cases zfn d ((bl s).drop (i+n)) (i+n)<;>rfl
   have I:(acc++[atS t i]).length=acc.length+1:=(by simp);rw [if_neg o,if_pos kab];show lex_Scan.l0 k s (acc++[atS t i]) _=_;rw [y (i+n) k (acc++[atS t i]) kab kab kab kab];simp only [if_neg o];cases zfn d ((bl s).drop (i+n)) (i+n) with
   | inl x=>rfl
   | inr ts=>simp [zlk,qbt]
def zbv (s:ByteArray):List S49×Int×Int:=if s.size>8000 then ([],84,8000) else zlk [] (zfn (s.size+1) (bl s) 0)
theorem zqo (s:ByteArray) (k:Nat) (hk:18000<=k):lex_Scan.f k s=some (zbv s):=by
 unfold lex_Scan.f zbv;by_cases h:s.size>8000
 ·rw [if_pos kab,if_pos h]
 rw [if_neg kab,if_neg h];exact scan_l0 s kab (s.size+1) 0 k [] kab kab kab (by simp)
def zgk (i:Int):List UInt8->Bool
 | []=>true
 | b::_=>!gB i b
theorem zrl (i:Int) (b:UInt8) (r v:List UInt8) (h:zgk i v=true) (d:∀ x∈r,gB i x=true):runS i (b::(r++v))=(b::r).length:=by
 show 1+_=r.length+1;rw [List.takeWhile_append_of_pos d];cases v with
 | nil=>simp;omega
 | cons c v=>
  have:gB i c=false:=by simpa [zgk] using h
  rw [qby (by rw [this];decide)];simp;omega
theorem runS_mem (i:Int) (b:UInt8) (r:List UInt8):∀ x∈r.take (runS i (b::r)-1),gB i x=true:=by
 have e:runS i (b::r)-1=(r.takeWhile (gB i)).length:=by show 1+_-1=_;omega
 rw [e];intro x d;have:r.take (r.takeWhile (gB i)).length=r.takeWhile (gB i):=((List.prefix_iff_eq_take).1 (List.takeWhile_prefix (gB i))).symm;rw [this] at d;exact qbn.1 List.all_takeWhile x d
theorem runS_stops (i:Int) (b:UInt8) (r:List UInt8):zgk i ((b::r).drop (runS i (b::r)))=true:=by
 have e:runS i (b::r)=(r.takeWhile (gB i)).length+1:=by show 1+_=_;omega
 rw [e,List.drop_succ_cons];clear e;induction r with
 | nil=>rfl
 | cons c t n=>
  by_cases d:gB i c=true
  ·rw [qbx d,qay,List.drop_succ_cons];exact n
  rw [qby d];show (!gB i c)=true;simpa using d
theorem zqx (i:Int) (x:ByteArray) (t:S49) (n:Nat) (h:finS i x = .inr (t,n)):n=x.size:=by
 unfold finS at h
 repeat' (first|(cases h;done)|(obtain ⟨_,rfl⟩:=qcb (qbh h);rfl)|(split at h))
def inS (u:List UInt8):Int:=match u with|[]=>0|b::_=>zaw (b.toNat:Int)
theorem zix (u:List UInt8) (t:S49) (n:Nat) (h:tokS u = .inr (t,n)) (e:inS u≠6):zgk (inS u) (u.drop n)=true:=by
 match u with
 | []=>cases h
 | b::r=>
  have o:inS (b::r)=zaw (b.toNat:Int):=rfl;rw [o] at e ⊢;simp only [tokS] at h;rw [if_neg e] at h;by_cases d:zaw (b.toNat:Int)=0
  ·rw [if_pos d] at h;cases h
  rw [if_neg d] at h;have hn:=zqx _ _ _ _ h;rw [zcw,qbi,Nat.min_eq_left (zhh _ _)] at hn;rw [hn];exact runS_stops _ b r
theorem zhs (u v:List UInt8) (t:S49) (n:Nat) (h:tokS u = .inr (t,n)) (hs:inS u≠6->zgk (inS u) v=true):0<n/\n<=u.length/\tokS (u.take n++v) = .inr (t,n):=by
 match u with
 | []=>cases h
 | b::r=>
  have y:inS (b::r)=zaw (b.toNat:Int):=rfl;rw [y] at hs;simp only [tokS] at h;by_cases d:zaw (b.toNat:Int)=6
  ·rw [if_pos d] at h
   match s:qdS r with
   | none=>rw [s] at h;cases h
   | some (o,m)=>
    rw [s] at h;dsimp only at h;by_cases hh:o.length<=200
    ·rw [if_pos hh] at h;obtain ⟨rfl,rfl⟩:=qcb (qbh h);obtain ⟨h1,A,x⟩:=zsu r.length r o m (qad _) s;refine ⟨kab,kbv,?_⟩;rw [List.take_succ_cons,List.cons_append];simp only [tokS];rw [if_pos d,x v];dsimp only;rw [if_pos hh]
    rw [if_neg hh] at h;cases h
  rw [if_neg d] at h;by_cases p:zaw (b.toNat:Int)=0
  ·rw [if_pos p] at h;cases h
  rw [if_neg p] at h;have q:=zhh (zaw (b.toNat:Int)) (b::r);have B:=zkt (zaw (b.toNat:Int)) b r;have hn:=zqx _ _ _ _ h;rw [zcw,qbi,Nat.min_eq_left q] at hn;refine ⟨kab,kab,?_⟩;obtain ⟨m,e⟩:∃ m,n=m+1:=⟨n-1,kab⟩;have w:=runS_mem (zaw (b.toNat:Int)) b r;rw [<-hn,e,Nat.add_sub_cancel] at w;have z:runS (zaw (b.toNat:Int)) (b::(r.take m++v))=n:=by
   rw [zrl _ b (r.take m) v (hs d) w];rw [qay,qbi,e];rw [qay] at q;omega
  rw [e,List.take_succ_cons,List.cons_append];simp only [tokS];rw [if_neg d,if_neg p,z];rw [<-hn,e,List.take_succ_cons] at h;rw [e,List.take_succ_cons,List.take_append_of_le_length (by rw [qbi];rw [qay] at q;omega),List.take_take,Nat.min_self];exact h
end
section
theorem zfi (u:List UInt8) (t:S49) (n:Nat) (h:tokS u = .inr (t,n)):0<n/\n<=u.length:=by
 have:=zhs u (u.drop n) t n h (fun d=>zix u t n h d);exact ⟨this.1,this.2.1⟩
theorem zso (u:List UInt8) (e:Int) (h:tokS u = .inl e):e=80\/e=81\/e=82\/e=83:=by
 unfold tokS at h;split at h
 ·cases h;omega
 split at h
 ·split at h
  ·split at h
   ·cases h
   cases h;omega
  cases h;omega
 split at h
 ·cases h;omega
 unfold finS at h
 repeat' (first|(split at h)|(cases h;omega)|cases h)
theorem scanS_fuel:∀ (d d':Nat) (u:List UInt8) (p:Nat),u.length<d->u.length<d'->zfn d u p=zfn d' u p:=by
 intro d;induction d with
 | zero=>intro d' u p h;omega
 | succ d o=>
  intro d' u p h q;obtain ⟨d',rfl⟩:∃ m,d'=m+1:=⟨d'-1,kab⟩
  match u with
  | []=>rfl
  | b::r=>
   simp only [zfn]
   match ht:tokS (b::r) with
   | .inl e=>rfl
   | .inr (t,n)=>
    have:=zfi _ _ _ ht;simp only;rw [o d' _ _ kbf kbf]
def zdo (u:List UInt8) (p:Nat):(Int×Nat) ⊕ List S49:=zfn (u.length+1) u p
def addT (ts:List S49):(Int×Nat) ⊕ List S49->(Int×Nat) ⊕ List S49
 | .inl x => .inl x
 | .inr l => .inr (ts++l)
theorem zic (x):addT [] x=x:=by cases x<;>rfl
theorem addT_add (a b x):addT a (addT b x)=addT (a++b) x:=by cases x<;>simp [addT]
theorem zcz (p:Nat):zdo [] p = .inr [endS p]:=rfl
theorem zga (u:List UInt8) (p:Nat) (e:Int) (hu:u≠[]) (h:tokS u = .inl e):zdo u p = .inl (e,p):=by
 match u with
 | []=>exact absurd rfl hu
 | b::r=>unfold zdo;rw [qay,zfn,h]
theorem zea (u:List UInt8) (p:Nat) (t:S49) (n:Nat) (h:tokS u = .inr (t,n)):zdo u p=addT (if t.f0=0 then [] else [atS t p]) (zdo (u.drop n) (p+n)):=by
 have d:=zfi _ _ _ h
 match u with
 | []=>cases h
 | b::r=>
  unfold zdo;rw [qay,zfn,h];simp only;rw [scanS_fuel (r.length+1) (((b::r).drop n).length+1) _ _ (by rw [qbv,qay];omega) kab];cases zfn (((b::r).drop n).length+1) ((b::r).drop n) (p+n) with
  | inl x=>rfl
  | inr l=>
   simp only [addT];split<;>rfl
theorem zna (i:Int) (u v:List UInt8) (h:zgk i u=true) (d:v=[]\/v.head?=u.head?):zgk i v=true:=by
 rcases d with rfl|d
 ·rfl
 cases v with
 | nil=>rfl
 | cons c v=>
  cases u with
  | nil=>cases d
  | cons b u=>
   cases d;exact h
theorem zll (s:ByteArray) (h:s.size<=8000):zbv s=zlk [] (zdo (bl s) 0):=by
 unfold zbv zdo;rw [if_neg kab,zbi]
end
section
def zgh (W:World) (b:Nat):List S62->List Value->List Nat->Prop
 | [],cs,L=>cs=[]/\L=[]
 | x::r,cs,L=>∃ t ts M N,Tree W b x.f2 t M/\zgh W b r ts N/\cs=(([Value.int .i64 x.f0,Value.string x.f1]:List Value)++t++[Value.int .i64 x.f3])++ts/\L=M++N
section
variable {W w1:World} {b:Nat}
theorem zgh.lt:∀ {l:List S62} {cs:List Value} {L:List Nat},zgh W b l cs L->∀ g∈L,b<=g/\g<W.heap.size
 | [],_,_,⟨_,h⟩,g,hg=>by subst h;cases hg
 | x::r,_,_,⟨t,ts,M,N,h1,d,_,h⟩,g,hg=>by
  subst h;rcases qbg.1 hg with hg|hg
  ·exact h1.lt g hg
  exact zgh.lt d g hg
theorem zgh.frame:∀ {l:List S62} {cs:List Value} {L:List Nat},zgh W b l cs L->(∀ g∈L,w1.heap[g]?=W.heap[g]?)->zgh w1 b l cs L
 | [],_,_,h,_=>h
 | x::r,_,_,⟨t,ts,M,N,h1,d,e,h⟩,hh=>by
  subst h;exact ⟨t,ts,M,N,h1.frame fun g hg=>hh g (qbg.2 (.inl hg)),zgh.frame d fun g hg=>hh g (qbg.2 (.inr hg)),e,rfl⟩
theorem zgh.length:∀ {l:List S62} {cs:List Value} {L:List Nat},zgh W b l cs L->cs.length=l.length*11
 | [],_,_,⟨h,_⟩=>by subst h;rfl
 | x::r,_,_,⟨t,ts,M,N,h1,n,o,_⟩=>by
  subst o;have d:=h1.length;have e:=zgh.length n;simp only [qas,qay,List.length_nil,d,e];omega
theorem zgh.snoc:∀ {l:List S62} {cs:List Value} {L:List Nat} {x:S62} {t:List Value} {M:List Nat},zgh W b l cs L->Tree W b x.f2 t M->zgh W b (l++[x]) (cs++(([Value.int .i64 x.f0,Value.string x.f1]:List Value)++t++[Value.int .i64 x.f3])) (L++M)
 | [],_,_,x,t,M,⟨h1,d⟩,k=>by
  subst h1;subst d;exact ⟨t,[],M,[],k,⟨rfl,rfl⟩,by simp,by simp⟩
 | y::r,_,_,x,t,M,⟨o,ts,e,N,h1,d,n,h⟩,k=>by
  subst n;subst h;exact ⟨o,_,e,_,h1,zgh.snoc d k,by simp [qbt],by simp [qbt]⟩
theorem zgh.lower {b':Nat} (d:b'<=b):∀ {l:List S62} {cs:List Value} {L:List Nat},zgh W b l cs L->zgh W b' l cs L
 | [],_,_,h=>h
 | x::r,_,_,⟨t,ts,M,N,h1,e,n,h⟩=>⟨t,ts,M,N,h1.lower d,zgh.lower d e,n,h⟩
end
def Pol (W:World) (b:Nat) (l:List S62) (v:Value):Prop:=
 ∃ cells L,Row W b 62 11 v l.length cells/\zgh W b l cells L/\L.Nodup/\∀ g,v.ownBlock=some g->g∉L
theorem Pol.nil (W:World) (b:Nat):Pol W b [] (.slice none 0 0):=⟨[],[],Row.nil _ _ _ _,⟨rfl,rfl⟩,List.nodup_nil,fun g _ h=>by cases h⟩
def zha (t:S49):Tok:=⟨t.f0,t.f1,t.f2,t.f3.f0,t.f3.f1,t.f4⟩
def zgm (s:ByteArray):List S62×Int×Int:=
 if (zbv s).2.1≠0 then ([],(zbv s).2.1,(zbv s).2.2)
 else match zil ((zbv s).1.map zha) with
  | some (.ok x _)=>(x,0,0)
  | some (.bad e p)=>([],e,p)
  | none=>([],0,0)
theorem znc:∀ (d:Nat) (u:List UInt8) (p:Nat) (l:List S49),zfn d u p = .inr l->∃ r q,l=r++[endS q]/\r.length<=u.length
 | 0,_,_,_,h=>by cases h
 | _+1,[],p,_,h=>by cases h;exact ⟨[],p,rfl,qad _⟩
 | d+1,b::r,p,l,h=>by
  simp only [zfn] at h;split at h
  ·cases h
  rename_i t n ht;have hn:=zfi (b::r) t n ht;split at h
  ·cases h
  rename_i ts w;obtain ⟨o,q,e,s⟩:=znc d _ _ ts w;rw [qbv] at s;have h:=qbh h;split at h
  ·exact ⟨o,q,by rw [<-h];exact e,kab⟩
  exact ⟨atS t p::o,q,by rw [<-h,e];rfl,by rw [qay];omega⟩
theorem zlj:∀ (d:Nat) (u:List UInt8) (p:Nat) (e:Int) (q:Nat),u.length<d->zfn d u p = .inl (e,q)->e≠0
 | 0,_,_,_,_,hd,_=>by omega
 | _+1,[],_,_,_,_,h=>by cases h
 | d+1,b::r,p,e,q,hd,h=>by
  simp only [zfn] at h;split at h
  ·rename_i e' ht;have h1:=zso _ _ ht;have h:=Sum.inl.inj h;injection h with s w;omega
  rename_i t n ht;have hn:=zfi (b::r) t n ht;split at h
  ·rename_i x o;have h:=Sum.inl.inj h;subst h;exact zlj d _ _ _ _ kbf o
  cases h
theorem zft (s:ByteArray) (h:(zbv s).2.1=0):∃ r q,(zbv s).1=r++[endS q]/\(zbv s).1.length<=8001:=by
 unfold zbv at h ⊢;by_cases hs:s.size>8000
 ·rw [if_pos hs] at h;exact absurd h kad
 rw [if_neg hs] at h ⊢
 match d:zfn (s.size+1) (bl s) 0 with
 | .inl (e,p)=>
  rw [d] at h;exact absurd h (zlj _ _ _ _ _ (by rw [zbi];omega) d)
 | .inr l=>
  obtain ⟨r,q,n,u⟩:=znc _ _ _ _ d;have o:=zbi s;refine ⟨r,q,by simp [zlk,n],?_⟩;simp only [zlk,qbw,n,qas,qay,List.length_nil];omega
theorem catch_idle (p q r:Addr) (w:World) :
  CallsD prog 27 #[.pointer (some p),.pointer (some q),.pointer (some r)] .returning w fun e n w'=>e = .returned (.tuple #[])/\n = .returning/\w'=w:=by
 refine callsD_of_wpS func27 rfl fun d cs hu=>?_;apply wpS_seq;apply wpS_region;simp [wpOpsS,go_sem,recoverD,hu,ntmps27,Exit.thenS];refine wpS_of_wp ?_;go_wp2;cases d
 simp_all [bodyPostS,results,Tryz.results27,Exit.thenS]
theorem run_typeAssert_struct {P:Program} {t:TypeId} {fs} (h:P.underlying t=some (.struct fs)) (d:TypeId) (v:Value) (w:World):(Instr.typeAssert (.iface t v) d t true).run P w = .ok (.tuple #[v,.bool true]) w:=by
 simp [Instr.typeAssert,run_underlying h,Result.andThen]
theorem gate_assert {P:Program} {ops:Array Oper} {rest:List Oper} {a:Act} {Q:Exit->Act->World->Prop} {w:World} {d:Option Tmp} {x:Operand} {n t:TypeId} {ok:Bool} {ty:TypeId} {pos:String} {e} {g} (h:wpList P ops Q (⟨d,Op.typeAssert x n t ok,ty,pos,e,g⟩::rest) a w):wpList P ops Q (⟨d,Op.typeAssert x n t ok,ty,pos,e,g⟩::rest) a w:=h
theorem wpList_assert {P:Program} {ops:Array Oper} {rest:List Oper} {o:Oper} {a:Act} {Q:Exit->Act->World->Prop} {w:World} (hg:o.guard=none) (x:Operand) (d t:TypeId) (p:o.op=Op.typeAssert x d t true) {fs} (h:P.underlying t=some (.struct fs)) (v:Value) (q:a.eval x = .iface t v)
  (e:wpList P ops Q rest (a.put o.dst (.tuple #[v,.bool true])) w):wpList P ops Q (o::rest) a w:=by
 refine wpList_plain hg fun r n=>?_;have hr:=run_typeAssert_struct h d v w;unfold Oper.wp;simp [execOp,p,q,hr,Result.andThen];exact n _ _ e
theorem catch_panicking (p q r:Nat) (e at_:Int) (v:Value) (x y:Int) (z:List PanicEntry) (w:World) (d:w.heap[p]?=some (.cells #[v] 36 (0,0))) (n:w.heap[q]?=some (.cells #[.int .i64 x] 37 (0,0))) (s:w.heap[r]?=some (.cells #[.int .i64 y] 3 (0,0))) (L:p≠q) (M:p≠r) (O:q≠r) :
  CallsD prog 27 #[.pointer (some ⟨p,0,none⟩),.pointer (some ⟨q,0,none⟩),.pointer (some ⟨r,0,none⟩)] (.panicking (zhp e at_::z)) w fun e' I w'=>
   e' = .returned (.tuple #[])/\I = .panicking ({ zhp e at_ with recovered:=true }::z)/\∃ W1,Below w.heap.size w W1/\w'=((W1.setCell ⟨p,0,none⟩ (.slice none 0 0)).setCell ⟨q,0,none⟩ (.int .i64 e)).setCell ⟨r,0,none⟩ (.int .i64 at_):=by
 refine callsD_of_wpS func27 rfl fun J cs hu=>?_;apply wpS_seq;apply wpS_region;simp [wpOpsS,go_sem,recoverD,hu,ntmps27,Exit.thenS,zhp];have G:∀ w:World,(binOp BinOp.eql 20 (.iface 70 (.agg #[.int .i64 e,.int .i64 at_])) .nilIface).run prog w = .ok (.bool false) w:=fun w=>by kernel_rfl
 refine wpS_of_wp ?_;show Code.wp _ _ _ ⟨#[.pointer (some ⟨p,0,none⟩),.pointer (some ⟨q,0,none⟩),.pointer (some ⟨r,0,none⟩),undef,undef,undef,.iface 70 (.agg #[.int .i64 e,.int .i64 at_]),undef,undef,undef,undef,undef,undef,undef,undef,undef,undef],[]⟩ _;have h1:=zam d;have D:=zam n;have E:=zam s;have a1:p≠w.heap.size:=kab;have a2:q≠w.heap.size:=kab;have a3:r≠w.heap.size:=kab;have hp:=zab (zaf d (.cells #[.int .i64 e,.int .i64 at_] 70)) 0;have u:=zab (zaf n (.cells #[.int .i64 e,.int .i64 at_] 70)) 0;have hr:=zab (zaf s (.cells #[.int .i64 e,.int .i64 at_] 70)) 0;have A:=zac (zaf d (.cells #[.int .i64 e,.int .i64 at_] 70)) 0;have B:=zac (zaf n (.cells #[.int .i64 e,.int .i64 at_] 70)) 0;have fr:=zac (zaf s (.cells #[.int .i64 e,.int .i64 at_] 70)) 0;simp only [qal,qaj] at hp u hr;go_wp2_with ((with_reducible refine gate_assert ?_);refine wpList_assert rfl _ _ _ rfl underlying70 _ rfl ?_);have HB:=zq (((qam w.heap.size w).alloc (qad _) (.cells #[.int .i64 e,.int .i64 at_] 70)).drew);clear h1 D E d n s;go_region;all_goals (try go_wp2)
 clear hp u hr A B fr G;all_goals (simp [bodyPostS,results,Tryz.results27,Exit.thenS])
 all_goals exact ⟨_,HB.o,rfl⟩
def zkp (W:World) (l:List S62) (d at_:Int) (e:Ending) (W':World):Prop:=
 ∃ v,e = .returned (.tuple #[.agg #[v],.int .i64 d,.int .i64 at_])/\Pol W' W.heap.size l v/\Below W.heap.size W W'
theorem zql {W:World} {b:Nat} {ok:Nat->Prop} {v:Value} {l:List S49} (h:Kd.R k49 49 W b ok v l) (L:0<l.length):∃ T c,v = .slice (some ⟨T,0,none⟩) (l.map zha).length c/\b<=T/\Toks W T (l.map zha):=by
 obtain ⟨T,c,z,J,Y,cells,w⟩:=Kd.R_form h L;refine ⟨T,c,by rw [qcc];exact z,J,cells,w,fun j t y r hr=>?_⟩;obtain ⟨A,O,B,X,G⟩:=Kd.R_reads h;rw [z] at B;injection B with E;subst E;rw [qcd] at y;obtain ⟨x,D,rfl⟩:=qbr.1 y;have U:j<l.length:=(qbm.1 D).1;obtain ⟨ad,u,d,e,n,p,q,s⟩:=at_T49 G (j:Int) kab kab;have u:=qaa u;subst u;have M:zkg l (j:Int)=x:=by
  unfold zkg;rw [qau,qar,D];rfl
 rw [M,qau] at d e n p q s;have I:∀ o,(⟨T,0,none⟩:Addr).add o=⟨T,o,none⟩:=fun o=>by unfold Addr.add;split<;>simp_all
 simp only [I] at d e n p q s;rw [zab w] at d e n p q s;have:r=0\/r=1\/r=2\/r=3\/r=4\/r=5:=kab;rcases this with rfl|rfl|rfl|rfl|rfl|rfl
 ·exact d
 ·exact e
 ·exact n
 ·exact p
 ·exact q
 exact s
theorem zme {l r:List S49} {q:Nat} (h:l=r++[endS q]):∀ k,k<(l.map zha).length->(tk (l.map zha) k).kind≠8->k+1<(l.map zha).length:=by
 intro k hk d;rw [qcc] at hk ⊢;have n:l.length=r.length+1:=by rw [h];simp
 by_cases e:k=r.length
 ·exfalso;apply d;unfold tk;rw [qar,qcd,h,e,qbo (qad _),Nat.sub_self];rfl
 omega
theorem zhg {P:Program} {w:World} {ty:TypeId} {k:IntKind} {a:Addr} {v:Value} (hu:P.underlying ty=some (.int k)) (d:w.cell? a=some v):(loadVar ty a).run P w = .ok v w:=by
 simp [loadVar,isAgg,run_underlying hu,go_sem,d,Result.andThen]
theorem zgt {w:World} {p q r:Nat} {v x y:Value} {tmps:Array Value} (o:tmps[2]?=some (.pointer (some ⟨p,0,none⟩))) (s:tmps[3]?=some (.pointer (some ⟨q,0,none⟩))) (u:tmps[4]?=some (.pointer (some ⟨r,0,none⟩)))
  (d:w.heap[p]?=some (.cells #[v] 36 (0,0))) (e:w.heap[q]?=some (.cells #[x] 37 (0,0))) (n:w.heap[r]?=some (.cells #[y] 3 (0,0))) :
  (results Tryz.f11 tmps).run prog w = .ok (.tuple #[.agg #[v],x,y]) w:=by
 have c2:w.cell? ⟨q,0,none⟩=some x:=zab e 0;have c3:w.cell? ⟨r,0,none⟩=some y:=zab n 0;have l1:=run_loadVar_row (P:=prog) w p 36 36 #[v] (0,0) _ d underlying36 rfl kae;have z:=zhg (P:=prog) underlying37 c2;have A:=zhg (P:=prog) underlying3 c3;have hr:Tryz.f11.results=#[.cell 2 36,.cell 3 37,.cell 4 3]:=rfl;simp [results,hr,o,s,u,asAddr,l1,z,A]
theorem parse_scan (s:ByteArray) (W:World) (A:Inv W) (hf:(zbv s).2.1≠0) :
  Calls prog 11 #[.string s] W (zkp W [] (zbv s).2.1 (zbv s).2.2):=by
 have u:=(((qam W.heap.size W).alloc (qad _) (.cells #[.slice none 0 0] 36)).alloc (by simp) (.cells #[.int .i64 0] 37)).alloc kbv (.cells #[.int .i64 0] 3);have J:=zq (lex_Scan.calls 18000 s (zbv s).1 (zbv s).2.1 (zbv s).2.2 _ (Inv.below A u) (zqo s 18000 (qad _)));have y:=zaf (zaf (qac W (.cells #[.slice none 0 0] 36)) (.cells #[.int .i64 0] 37)) (.cells #[.int .i64 0] 3);have q:=zaf (qac (W.alloc (.cells #[.slice none 0 0] 36)) (.cells #[.int .i64 0] 37)) (.cells #[.int .i64 0] 3);have r:=qac ((W.alloc (.cells #[.slice none 0 0] 36)).alloc (.cells #[.int .i64 0] 37)) (.cells #[.int .i64 0] 3);rw [qae] at q;rw [qae,qae] at r;have x:=zq u;have e:=zq y;have n:=zq q;have B3:=zq r;clear u y q r A;have ad:∀ (fn:Fn) (first cap:Array Value) (w:World),(Instr.makeFunc fn first cap).run prog w = .ok (.func fn first cap) w:=fun _ _ _ _=>rfl
 go_enter_defers func11,ntmps11
 go_wp2_with (go_at_call 16;refine J.o.mono ?_;rintro z w1 ⟨v0,rfl,B,d⟩;have L:=zab (zaq e.o d) 0;have c2:=zab (zaq n.o d) 0;have c3:=zab (zaq B3.o d) 0;have f1:=zac (zaq e.o d) 0;have f2:=zac (zaq n.o d) 0;have f3:=zac (zaq B3.o d) 0;simp only [qal,qaj] at L c2 c3;have I:=zq (x.o.trans (d.mono x.o.size));obtain ⟨A0,k0,rfl⟩:=Kd.R_slice B;have D:=zq (zaq e.o d);have E:=zq (zaq n.o d);have G:=zq (zaq B3.o d);clear B d);have z:_=some (Obj.cells #[.slice none 0 0] 36 (0,0)):=zan D.o 0 (.slice none 0 0) rfl;have M:=zat (p:=⟨W.heap.size,0,none⟩) E.o (by show W.heap.size+1≠W.heap.size;omega) (.slice none 0 0);have O:=zat (p:=⟨W.heap.size,0,none⟩) G.o (by show W.heap.size+1+1≠W.heap.size;omega) (.slice none 0 0);have g1:=zat (p:=⟨W.heap.size+1,0,none⟩) z (by show W.heap.size≠W.heap.size+1;omega) (.int .i64 (zbv s).2.1);have g2:_=some (Obj.cells #[.int .i64 (zbv s).2.1] 37 (0,0)):=zan M 0 (.int .i64 (zbv s).2.1) rfl;have g3:=zat (p:=⟨W.heap.size+1,0,none⟩) O (by show W.heap.size+1+1≠W.heap.size+1;omega) (.int .i64 (zbv s).2.1);have X:=zat (p:=⟨W.heap.size+1+1,0,none⟩) g1 (by show W.heap.size≠W.heap.size+1+1;omega) (.int .i64 (zbv s).2.2);have Y:=zat (p:=⟨W.heap.size+1+1,0,none⟩) g2 (by show W.heap.size+1≠W.heap.size+1+1;omega) (.int .i64 (zbv s).2.2);have Z:_=some (Obj.cells #[.int .i64 (zbv s).2.2] 3 (0,0)):=zan g3 0 (.int .i64 (zbv s).2.2) rfl;have U:=(((I.o.setCell (p:=⟨W.heap.size,0,none⟩) (qad _) (.slice none 0 0)).setCell (p:=⟨W.heap.size+1,0,none⟩) (by show W.heap.size<=W.heap.size+1;omega) (.int .i64 (zbv s).2.1)).setCell (p:=⟨W.heap.size+1+1,0,none⟩) kav (.int .i64 (zbv s).2.2));exact ⟨_,zgt rfl rfl rfl X Y Z,_,rfl,Pol.nil _ _,U⟩
end
section
structure PInv (W:World) (g T c:Nat) (toks:List Tok) (i:Nat) (l:List S62) (v:Value) (W':World):Prop where
 st:PSt W' g T c toks i
 bel:Below W.heap.size W W'
 pol:W'.heap[W.heap.size]?=some (.cells #[v] 36 (0,0))
 err:W'.heap[W.heap.size+1]?=some (.cells #[.int .i64 0] 37 (0,0))
 num:W'.heap[W.heap.size+1+1]?=some (.cells #[.int .i64 0] 3 (0,0))
 row:Pol W' (g+1) l v
 far:W.heap.size+3<=T/\T<g
 here:i<toks.length
 many:l.length<=100
section
variable {W W1 W2:World} {g T c i j:Nat} {toks:List Tok} {l:List S62} {v:Value}
theorem Pol.frame {b:Nat} (h:Pol W b l v) (hh:∀ k,b<=k->k<W.heap.size->W1.heap[k]?=W.heap[k]?):Pol W1 b l v:=by
 obtain ⟨cells,L,h1,d,e,n⟩:=h;exact ⟨cells,L,h1.frame fun g hg=>hh g (h1.blk hg).1 (h1.blk hg).2.1,d.frame fun g hg=>hh g (d.lt g hg).1 (d.lt g hg).2,e,n⟩
theorem Pol.lower {b b':Nat} (d:b'<=b) (h:Pol W b l v):Pol W b' l v:=by
 obtain ⟨cells,L,h1,e,n,o⟩:=h;exact ⟨cells,L,h1.lower d,e.lower d,n,o⟩
theorem PInv.move (h:PInv W g T c toks i l v W1) (e:PSt W2 g T c toks j) (hF:Fr W1 W2 (·=g)) (n:j<toks.length):PInv W g T c toks j l v W2:=by
 have o:=h.far;exact ⟨e,hF.below (fun k hk=>by omega) h.bel.size h.bel,hF.blk h.pol kab,hF.blk h.err kab,hF.blk h.num kab,h.row.frame fun k h1 d=>hF.block k d kab,h.far,n,h.many⟩
theorem PInv.snoc {x:S62} {cs cells:List Value} {L M:List Nat} {v1:Value} {w1:World} (h:PInv W g T c toks i l v W2) (hl:l.length<100)
  (Y:Row W2 (g+1) 62 11 v l.length cells) (hit:zgh W2 (g+1) l cells L) (w:∀ b,v.ownBlock=some b->b∉L) (U:L.Nodup) {s:Nat} (J:g+1<=s) (B:∀ k∈L,k<s) (y:∀ b,v.ownBlock=some b->b<s)
  (q:Tree W2 s x.f2 cs M) (D:M.Nodup)
  (X:Row w1 (g+1) 62 11 v1 (l.length+1) (cells++(([Value.int .i64 x.f0,Value.string x.f1]:List Value)++cs++[Value.int .i64 x.f3]))) (u:W2.grownBy w1 v.ownBlock) (d:v1.ownBlock=v.ownBlock\/v1.ownBlock=some (W2.heap.size+1)) (a1:v1.ownBlock≠none) :
  PInv W g T c toks i (l++[x]) v1 (w1.setCell ⟨W.heap.size,0,none⟩ v1):=by
 have ad:=h.far;have z:∀ b,v.ownBlock=some b->g+1<=b:=fun b n=>(Y.blk n).1;have far:∀ k,k<W2.heap.size->v.ownBlock≠some k->w1.heap[k]?=W2.heap[k]?:=fun k hk hn=>u.block k hk (fun e=>hn e.symm);have r:∀ k,k<W2.heap.size->k<=g->w1.heap[k]?=W2.heap[k]?:=fun k hk af=>far k hk fun e=>by have:=z k e;omega
 have O:=h.st.lts.1;have G:=h.st.lts.2.1;have A:Fr W2 w1 (fun k=>some k=v.ownBlock):=Fr.of_grown u (fun k hk=>hk.symm);have E:Pol w1 (g+1) (l++[x]) v1:=by
  refine ⟨_,L++M,by rw [qas];exact X,zgh.snoc (hit.frame fun k hk=>far k (hit.lt k hk).2 fun e=>w k e hk) (Tree.lower J (q.frame fun k hk=>far k (q.lt k hk).2 fun e=>?_)),?_,?_⟩
  ·have:=y k e;have:=(q.lt k hk).1;omega
  ·rw [List.nodup_append];refine ⟨U,D,fun a I b n e=>?_⟩;have:=B a I;have:=(q.lt b n).1;omega
  intro b n o;rcases qbg.1 o with o|o
  ·rcases d with d|d
   ·exact w b (d ▸ n) o
   have h1:=(hit.lt b o).2;rw [n] at d;have:=qaa d;omega
  rcases d with d|d
  ·have:=y b (d ▸ n);have:=(q.lt b o).1;omega
  have h1:=(q.lt b o).2;rw [n] at d;have:=qaa d;omega
 have hw:W.heap.size<=w1.heap.size:=qbf h.bel.size u.size;refine ⟨(h.st.blk (r g O (qad _)) (r T G kab)).far (by show g≠W.heap.size;omega) (by show T≠W.heap.size;omega) _,(A.below (fun k hk=>by have:=z k hk.symm;omega) h.bel.size h.bel).setCell (p:=⟨W.heap.size,0,none⟩) (qad _) _,
  zan ((r _ (zam h.pol) kab).trans h.pol) 0 v1 rfl,zat ((r _ (zam h.err) kab).trans h.err) (by show W.heap.size+1≠W.heap.size;omega) _,zat ((r _ (zam h.num) kab).trans h.num) (by show W.heap.size+1+1≠W.heap.size;omega) _,
  E.frame fun k h1 Z=>qbk w1 _ _ k (by show k≠W.heap.size;omega),h.far,h.here,kbv⟩
theorem PInv.facts (h:PInv W g T c toks i l v W1):W1.cell? ⟨W.heap.size,0,none⟩=some v/\W1.cell? ⟨W.heap.size+1,0,none⟩=some (.int .i64 0)/\W1.cell? ⟨W.heap.size+1+1,0,none⟩=some (.int .i64 0)/\W1.frozen? ⟨W.heap.size,0,none⟩=false/\W1.frozen? ⟨W.heap.size+1,0,none⟩=false/\W1.frozen? ⟨W.heap.size+1+1,0,none⟩=false:=
 ⟨zab h.pol 0,zab h.err 0,zab h.num 0,zac h.pol 0,zac h.err 0,zac h.num 0⟩
theorem zhj {tmps:Array Value} {e p:Int} (x:tmps[2]?=some (.pointer (some ⟨W.heap.size,0,none⟩))) (y:tmps[3]?=some (.pointer (some ⟨W.heap.size+1,0,none⟩))) (z:tmps[4]?=some (.pointer (some ⟨W.heap.size+1+1,0,none⟩)))
  (r:Below W.heap.size W W1) (n:W1.heap[W.heap.size]?=some (.cells #[v] 36 (0,0))) (o:W1.heap[W.heap.size+1]?=some (.cells #[.int .i64 0] 37 (0,0))) (q:W1.heap[W.heap.size+1+1]?=some (.cells #[.int .i64 0] 3 (0,0))) :
  Leaves prog Tryz.f11 tmps (zkp W [] e p) [{ target := .fn (.func 27) #[.pointer (some ⟨W.heap.size,0,none⟩),.pointer (some ⟨W.heap.size+1,0,none⟩),.pointer (some ⟨W.heap.size+1+1,0,none⟩)],args:=#[] }] (.panicking [zhp e p]) W1:=by
 refine leaves_cons (f:=27) (args:=#[.pointer (some ⟨W.heap.size,0,none⟩),.pointer (some ⟨W.heap.size+1,0,none⟩),.pointer (some ⟨W.heap.size+1+1,0,none⟩)]) (by simp) (by simp [go_sem]) ?_;refine (catch_panicking W.heap.size (W.heap.size+1) (W.heap.size+1+1) e p v 0 0 [] W1 n o q kab kab kab).mono ?_;rintro e' G w' ⟨rfl,rfl,W2,d,rfl⟩;have d1:=zaq n d;have d2:=zaq o d;have d3:=zaq q d;have s:_=some (Obj.cells #[.slice none 0 0] 36 (0,0)):=zan d1 0 (.slice none 0 0) rfl;have u:=zat (p:=⟨W.heap.size,0,none⟩) d2 (by show W.heap.size+1≠W.heap.size;omega) (.slice none 0 0);have w:=zat (p:=⟨W.heap.size,0,none⟩) d3 (by show W.heap.size+1+1≠W.heap.size;omega) (.slice none 0 0);have g1:=zat (p:=⟨W.heap.size+1,0,none⟩) s (by show W.heap.size≠W.heap.size+1;omega) (.int .i64 e);have g2:_=some (Obj.cells #[.int .i64 e] 37 (0,0)):=zan u 0 (.int .i64 e) rfl;have g3:=zat (p:=⟨W.heap.size+1,0,none⟩) w (by show W.heap.size+1+1≠W.heap.size+1;omega) (.int .i64 e);have B:=zat (p:=⟨W.heap.size+1+1,0,none⟩) g1 (by show W.heap.size≠W.heap.size+1+1;omega) (.int .i64 p);have D:=zat (p:=⟨W.heap.size+1+1,0,none⟩) g2 (by show W.heap.size+1≠W.heap.size+1+1;omega) (.int .i64 p);have E:_=some (Obj.cells #[.int .i64 p] 3 (0,0)):=zan g3 0 (.int .i64 p) rfl;have A:=((((r.trans (d.mono r.size)).setCell (p:=⟨W.heap.size,0,none⟩) (qad _) (.slice none 0 0)).setCell (p:=⟨W.heap.size+1,0,none⟩) (by show W.heap.size<=W.heap.size+1;omega) (.int .i64 e)).setCell (p:=⟨W.heap.size+1+1,0,none⟩) kav (.int .i64 p));exact ⟨_,zgt x y z B D E,_,rfl,Pol.nil _ _,A⟩
theorem parse_returned {tmps:Array Value} {R:Ending->World->Prop} {x:Value} (h:∃ x,(results Tryz.f11 tmps).run prog W1 = .ok x W1/\R (.returned x) W1) :
  Leaves prog Tryz.f11 tmps R [{ target := .fn (.func 27) #[.pointer (some ⟨W.heap.size,0,none⟩),.pointer (some ⟨W.heap.size+1,0,none⟩),.pointer (some ⟨W.heap.size+1+1,0,none⟩)],args:=#[] }] .returning W1:=by
 refine leaves_cons (f:=27) (args:=#[.pointer (some ⟨W.heap.size,0,none⟩),.pointer (some ⟨W.heap.size+1,0,none⟩),.pointer (some ⟨W.heap.size+1+1,0,none⟩)]) (by simp) (by simp [go_sem]) ?_;refine (catch_idle _ _ _ W1).mono ?_;rintro e' d w' ⟨rfl,rfl,rfl⟩;exact h
theorem Pol.clip {b cap:Nat} {A:Option Addr} (h:Pol W b l (.slice A l.length cap)):Pol W b l (.slice A l.length l.length):=by
 obtain ⟨cells,L,h1,d,e,n⟩:=h;exact ⟨cells,L,h1.clip,d,e,fun g hg=>n g (by cases A with
  | none=>simp [Value.ownBlock] at hg
  | some a=>exact hg)⟩
theorem parse_over {tmps:Array Value} {cap:Nat} {A:Option Addr} (h:PInv W g T c toks i l (.slice A l.length cap) W1) (q:tmps[2]?=some (.pointer (some ⟨W.heap.size,0,none⟩))) (r:tmps[3]?=some (.pointer (some ⟨W.heap.size+1,0,none⟩))) (s:tmps[4]?=some (.pointer (some ⟨W.heap.size+1+1,0,none⟩))) :
  Leaves prog Tryz.f11 tmps (zkp W l 0 0) [{ target := .fn (.func 27) #[.pointer (some ⟨W.heap.size,0,none⟩),.pointer (some ⟨W.heap.size+1,0,none⟩),.pointer (some ⟨W.heap.size+1+1,0,none⟩)],args:=#[] }] .returning
   ((((W1.setCell ⟨W.heap.size,0,none⟩ (.slice A l.length l.length)).setCell ⟨W.heap.size,0,none⟩ (.slice A l.length l.length)).setCell ⟨W.heap.size+1,0,none⟩ (.int .i64 0)).setCell ⟨W.heap.size+1+1,0,none⟩ (.int .i64 0)):=by
 have B:=h.far;have d:_=some (Obj.cells #[.slice A l.length l.length] 36 (0,0)):=zan h.pol 0 (.slice A l.length l.length) rfl;have e:_=some (Obj.cells #[.slice A l.length l.length] 36 (0,0)):=zan d 0 (.slice A l.length l.length) rfl;have n:=zat (p:=⟨W.heap.size,0,none⟩) (zat (p:=⟨W.heap.size,0,none⟩) h.err (by show W.heap.size+1≠W.heap.size;omega) (.slice A l.length l.length)) (by show W.heap.size+1≠W.heap.size;omega) (.slice A l.length l.length);have o:=zat (p:=⟨W.heap.size,0,none⟩) (zat (p:=⟨W.heap.size,0,none⟩) h.num (by show W.heap.size+1+1≠W.heap.size;omega) (.slice A l.length l.length)) (by show W.heap.size+1+1≠W.heap.size;omega) (.slice A l.length l.length);have g1:=zat (p:=⟨W.heap.size+1,0,none⟩) e (by show W.heap.size≠W.heap.size+1;omega) (.int .i64 0);have g2:_=some (Obj.cells #[.int .i64 0] 37 (0,0)):=zan n 0 (.int .i64 0) rfl;have g3:=zat (p:=⟨W.heap.size+1,0,none⟩) o (by show W.heap.size+1+1≠W.heap.size+1;omega) (.int .i64 0);have w:=zat (p:=⟨W.heap.size+1+1,0,none⟩) g1 (by show W.heap.size≠W.heap.size+1+1;omega) (.int .i64 0);have y:=zat (p:=⟨W.heap.size+1+1,0,none⟩) g2 (by show W.heap.size+1≠W.heap.size+1+1;omega) (.int .i64 0);have z:_=some (Obj.cells #[.int .i64 0] 3 (0,0)):=zan g3 0 (.int .i64 0) rfl;have u:=((((h.bel.setCell (p:=⟨W.heap.size,0,none⟩) (qad _) (.slice A l.length l.length)).setCell (p:=⟨W.heap.size,0,none⟩) (qad _) (.slice A l.length l.length)).setCell (p:=⟨W.heap.size+1,0,none⟩) (by show W.heap.size<=W.heap.size+1;omega) (.int .i64 0)).setCell (p:=⟨W.heap.size+1+1,0,none⟩) kav (.int .i64 0));refine parse_returned (x := .nilIface) ⟨_,zgt q r s w y z,_,rfl,?_,u⟩;refine Pol.lower (b:=g+1) kab (h.row.clip.frame fun k h1 _=>?_);rw [qbk _ _ _ k (by show k≠W.heap.size+1+1;omega),qbk _ _ _ k (by show k≠W.heap.size+1;omega),qbk _ _ _ k (by show k≠W.heap.size;omega),qbk _ _ _ k (by show k≠W.heap.size;omega)]
end
def zsz (Q:Exit->Act->World->Prop):Exit->Act->World->Prop
 | .panic _,_,_=>False
 | e,a,w=>Q e a w
theorem wp_noPanic {P:Program} {c:Code} {Q:Exit->Act->World->Prop} {a:Act} {w:World} (h:c.wp P (zsz Q) a w):c.wp P Q a w:=
 wp_mono h fun e a w h=>by
  cases e with
  | panic c=>exact h.elim
  | _=>exact h
theorem noPanic_mk {Q:Exit->Act->World->Prop} {a:Act} {w:World} (h:Q .normal a w):zsz Q .normal a w:=h
theorem zhm {P:Program} {fn:Func} {t1 t2:Array Value} {R:Ending->World->Prop} (hr:results fn t1=results fn t2):∀ (ds:List Deferred) (u:FrameMode) (w:World),Leaves P fn t1 R ds u w->Leaves P fn t2 R ds u w
 | [],.returning,w,h=>by unfold Leaves at h ⊢;rw [<-hr];exact h
 | [],.panicking c,w,h=>h
 | [],.run,w,h=>h
 | d::ds,u,w,⟨hu,n,cap,f,args,ht,hi,o⟩=>⟨hu,n,cap,f,args,ht,hi,o.mono fun e p w' h=>by
  cases e with
  | returned x=>exact zhm hr ds _ _ h
  | panicked c=>exact zhm hr ds _ _ h
  | outgrown=>exact h⟩
theorem parse_slots {t1 t2:Array Value} (d:t1[2]?=t2[2]?) (e:t1[3]?=t2[3]?) (n:t1[4]?=t2[4]?):results Tryz.f11 t1=results Tryz.f11 t2:=by
 have hr:Tryz.f11.results=#[.cell 2 36,.cell 3 37,.cell 4 3]:=rfl;simp [results,hr,d,e,n]
theorem zhi {a:Act} {o:Option Tmp} {v:Value} {R:Ending->World->Prop} {chain:List PanicEntry} {w:World} (p:∀ d:Nat,o=some d->5<=d) (h:bodyPostD prog Tryz.f11 R (.panic chain) (a.put o v) w):bodyPostD prog Tryz.f11 R (.panic chain) a w:=by
 cases o with
 | none=>exact h
 | some d=>
  have hd:(5:Nat)<=(d:Nat):=p d rfl;have e:∀ j:Nat,j<5->(a.put (some d) v).tmps[j]?=a.tmps[j]?:=fun j q=>by
   have n:¬(d:Nat)=j:=fun e=>(by rw [e] at hd;omega);show (a.tmps.setIfInBounds d v)[j]?=a.tmps[j]?;rw [Array.getElem?_setIfInBounds_ne n]
  exact zhm (parse_slots (e 2 kab) (e 3 kab) (e 4 kab)) _ _ _ h
end
section
def ParseE (W:World) (r:PR (List S62)):Ending->World->Prop:=match r with
 | .ok l _=>zkp W l 0 0
 | .bad e p=>zkp W [] e p
theorem item_many {toks:List Tok} {k n i:Nat} {x:S62} {j:Nat} (hn:n=100) (h:zfq toks k n i=some (.ok x j)):False:=by
 unfold zfq at h;split at h
 ·cases h
 rw [if_pos hn] at h;cases h
theorem parse_items (s:ByteArray) (W:World) (aS:Inv W) (hf:(zbv s).2.1=0) (res:PR (List S62)) (aG:zil ((zbv s).1.map zha)=some res) :
  Calls prog 11 #[.string s] W (ParseE W res):=by
 obtain ⟨rr,qq,aC,aX⟩:=zft s hf;have aa:=zme aC;have aE:0<(zbv s).1.length:=by rw [aC];simp
 obtain ⟨toks,Z⟩:∃ toks,(zbv s).1.map zha=toks:=⟨_,rfl⟩;have aD:toks.length=(zbv s).1.length:=by rw [<-Z,qcc]
 rw [Z] at aG aa;rw [<-aD] at aX;have bd:0<toks.length:=by rw [aD];exact aE
 have a8:=(((qam W.heap.size W).alloc (qad _) (.cells #[.slice none 0 0] 36)).alloc (by simp) (.cells #[.int .i64 0] 37)).alloc kbv (.cells #[.int .i64 0] 3);have aO:=zq (lex_Scan.calls 18000 s (zbv s).1 0 (zbv s).2.2 _ (Inv.below aS a8) (by rw [zqo s 18000 (qad _),<-hf]));have b1:=zaf (zaf (qac W (.cells #[.slice none 0 0] 36)) (.cells #[.int .i64 0] 37)) (.cells #[.int .i64 0] 3);have b2:=zaf (qac (W.alloc (.cells #[.slice none 0 0] 36)) (.cells #[.int .i64 0] 37)) (.cells #[.int .i64 0] 3);have b3:=qac ((W.alloc (.cells #[.slice none 0 0] 36)).alloc (.cells #[.int .i64 0] 37)) (.cells #[.int .i64 0] 3);rw [qae] at b2;rw [qae,qae] at b3;have ad:=zq a8;have B1:=zq b1;have B2:=zq b2;have B3:=zq b3;have aN:=zq aG;have bo:=zq aa;have aJ:=zq aE;have aP:=zq Z;have HF:=zq hf;clear a8 b1 b2 b3 aS aG aa aE aC hf Z aD;have b5:∀ (fn:Fn) (first cap:Array Value) (w:World),(Instr.makeFunc fn first cap).run prog w = .ok (.func fn first cap) w:=fun _ _ _ _=>rfl;have b4:=zpg
 go_enter_defers func11,ntmps11
 go_wp2_with (go_at_call 16;refine aO.o.mono ?_;rintro e1 w1 ⟨v0,rfl,hR,n⟩;obtain ⟨T,c,hv,G,a6⟩:=zql hR aJ.o;rw [aP.o] at hv a6;subst hv;rw [qae,qae,qae] at G;have HI:=zq (And.intro G (And.intro a6 (And.intro (zaq B1.o n) (And.intro (zaq B2.o n) (And.intro (zaq B3.o n) (ad.o.trans (n.mono ad.o.size)))))));clear hR n G a6);obtain ⟨G,⟨br,a1,aV⟩,d1,d2,d3,hB⟩:=HI.o;have ah:=zq (PInv.mk (g:=w1.heap.size) (i:=0) (l:=[]) (v := .slice none 0 0) ⟨qac w1 (.cells #[.slice (some ⟨T,0,none⟩) toks.length c,.int .i64 0] 73),⟨br,zaf a1 _,aV⟩,aX⟩ (hB.alloc hB.size _) (zaf d1 _) (zaf d2 _) (zaf d3 _) (Pol.nil _ _) ⟨kab,zam a1⟩ bd (by simp):PInv W w1.heap.size T c toks 0 [] (.slice none 0 0) (w1.alloc (.cells #[.slice (some ⟨T,0,none⟩) toks.length c,.int .i64 0] 73)));have aK:=zq (show zey toks (5*toks.length+4) (toks.length+1) 0 []=some res from aN.o);clear HI G a1 aV d1 d2 d3 hB aO ad B1 B2 B3 aN aJ aP HF;go_loopg [24] (toks.length+1) (fun k x wr=>∃ y:Nat,∃ l:List S62,∃ v:Value,Zq (PInv W w1.heap.size T c toks y l v wr)/\Zq (zey toks (5*toks.length+4) k y l=some res));case atStart=>exact ⟨0,[],_,ah,aK⟩
 case round=>
  clear ah aK bd;obtain ⟨y,l,v,HX,U⟩:=hrel;have hr:=U.o;cases gk with
  | zero=>exact absurd hr (by simp [zey])
  | succ k=>
  unfold zey at hr;clear U;have I:=HX.o.here;have bx:=HX.o.many;have D:=zq (fun W' h'=>zcr W' w1.heap.size T c toks y _ (zdg toks I) h');obtain ⟨cells,L,bk,hit,b0,bs⟩:=HX.o.row;obtain ⟨A,cap,rfl,bv,-⟩:=bk.form;clear bk hit b0 bs;have bu:l.length<=140737488355328:=kab;by_cases h8:(tk toks y).kind=8
  ·rw [if_pos h8] at hr;have hr:=qaa hr;subst hr;go_wp2_with (first
    | (go_at_call 28;refine (D.o _ HX.o.st).mono ?_;rintro e2 z ⟨rfl,n⟩;have ab:=zq (HX.o.move (HX.o.st.below n) (Fr.of_below n) I);obtain ⟨p1,p2,p3,z1,z2,z3⟩:=ab.o.facts;clear n D)
    | (go_at_call 30;refine (clip_item _ _ _ _ bv bu).mono ?_;rintro X B ⟨rfl,hw⟩;subst B))
   exact parse_over ab.o rfl rfl rfl
  rw [if_neg h8] at hr;cases hit:zfq toks (5*toks.length+4) l.length y with
  | none=>rw [hit] at hr;cases hr
  | some r=>
  rw [hit] at hr;have O:=zq (fun W' h'=>item_calls w1.heap.size T c toks bo.o W' _ l.length y r I bx h' hit);have bp:=zq hit;clear hit;cases r with
  | bad ke pe=>
   have hr:=qaa hr;subst hr;go_wp2_with (go_at_call 28;refine (D.o _ HX.o.st).mono ?_;rintro e2 z ⟨rfl,n⟩;have ab:=zq (HX.o.move (HX.o.st.below n) (Fr.of_below n) I);obtain ⟨p1,p2,p3,z1,z2,z3⟩:=ab.o.facts;clear n D);refine wp_region_any kae ?_;change wpAny _ _ _ _ _ _ _ (World.drew _);refine wpAny_take (i:=0) (v := .pointer (some ⟨W.heap.size,0,none⟩)) rfl kae kae kae (fun _ _ _ h=>zhi (fun d hd=>by cases hd;decide) h) (Or.inl ⟨by rfl,by intro w;go_simp⟩) ?_;refine wpAny_take (i:=2) (v := .pointer (some ⟨w1.heap.size,0,none⟩)) rfl kae kae kae (fun _ _ _ h=>zhi (fun d hd=>by cases hd;decide) h) (Or.inl ⟨by rfl,by intro w;go_simp⟩) ?_;refine wpAny_take (i:=3) (v := .pointer (some ⟨W.heap.size,0,none⟩)) rfl kae kae kae (fun _ _ _ h=>zhi (fun d hd=>by cases hd;decide) h) (Or.inl ⟨by rfl,by intro w;go_simp⟩) ?_;refine wpAny_ready (rs:=[1,4]) kae (by simp) ?_;refine AllReady.cons rfl (fun K p=>?_) (AllReady.cons rfl (fun K p=>?_) AllReady.nil)
   ·go_simp;refine p _ _ ?_;clear p K;refine wpAny_ready (rs:=[4]) kae (by simp) ?_;refine AllReady.cons rfl (fun K p=>?_) AllReady.nil;go_simp;refine p _ _ ?_;clear p K;refine wpAny_take (i:=5) (v := .int .i64 l.length) rfl kae kae kae (fun _ _ _ h=>zhi (fun d hd=>by cases hd;decide) h) (Or.inl ⟨by rfl,by intro w;go_simp⟩) ?_;refine wpAny_ready (rs:=[6]) kae (by simp) ?_;refine AllReady.cons rfl (fun K p=>?_) AllReady.nil;go_simp;go_at_call 29;refine (O.o _ ab.o.st.drew).mono ?_;rintro X B ⟨rfl,q⟩;have hF:=q.undrew;exact zhj rfl rfl rfl (hF.below (fun k hk=>by have:=ab.o.far;omega) ab.o.bel.size ab.o.bel) (hF.blk ab.o.pol kby) (hF.blk ab.o.err kby) (hF.blk ab.o.num kby)
   go_simp;refine p _ _ ?_;clear p K;refine wpAny_take (i:=5) (v := .int .i64 l.length) rfl kae kae kae (fun _ _ _ h=>zhi (fun d hd=>by cases hd;decide) h) (Or.inl ⟨by rfl,by intro w;go_simp⟩) ?_;refine wpAny_ready (rs:=[1,6]) kae (by simp) ?_;refine AllReady.cons rfl (fun K p=>?_) (AllReady.cons rfl (fun K p=>?_) AllReady.nil)
   ·go_simp;refine p _ _ ?_;clear p K;refine wpAny_ready (rs:=[6]) kae (by simp) ?_;refine AllReady.cons rfl (fun K p=>?_) AllReady.nil;go_simp;go_at_call 29;refine (O.o _ ab.o.st.drew).mono ?_;rintro X B ⟨rfl,q⟩;have hF:=q.undrew;exact zhj rfl rfl rfl (hF.below (fun k hk=>by have:=ab.o.far;omega) ab.o.bel.size ab.o.bel) (hF.blk ab.o.pol kby) (hF.blk ab.o.err kby) (hF.blk ab.o.num kby)
   go_simp;go_at_call 29;refine (O.o _ ab.o.st.drew).mono ?_;rintro X B ⟨rfl,q⟩;have hF:=q.undrew;exact zhj rfl rfl rfl (hF.below (fun k hk=>by have:=ab.o.far;omega) ab.o.bel.size ab.o.bel) (hF.blk ab.o.pol kby) (hF.blk ab.o.err kby) (hF.blk ab.o.num kby)
  | ok x j=>
   have U:=zq hr;clear hr;go_wp2_with (go_at_call 28;refine (D.o _ HX.o.st).mono ?_;rintro e2 z ⟨rfl,n⟩;have ab:=zq (HX.o.move (HX.o.st.below n) (Fr.of_below n) I);obtain ⟨p1,p2,p3,z1,z2,z3⟩:=ab.o.facts;have aI:=zq (show w1.heap.size+1<=z.heap.size from zam ab.o.st.src);clear n D);have bz:l.length<100:=by
    by_cases h:l.length=100
    ·exact (item_many h bp.o).elim
    omega
   refine wp_noPanic ?_;go_region_law (first
    | (go_simp;go_at_call 29;refine (O.o _ (by first|exact ab.o.st|exact ab.o.st.drew)).mono ?_;rintro X B ⟨cs,M,rfl,a7,hS,q,hj,aT⟩;have hF:=q.undrew;obtain ⟨v3,v4,v5,v6,rfl,-,-,-,-,A3,n3,c3,A4,n4,c4,A5,n5,c5,A6,n6,c6,rfl,rfl,rfl,rfl⟩:=zay a7;have E:=zq (ab.o.move hS hF hj);obtain ⟨k1,k2,k3,t1,t2,t3⟩:=E.o.facts;have ka:=fun o=>zab (zaf E.o.pol o) 0;simp only [qal,qaj] at ka;obtain ⟨cells,L,Y,J,aY,aW⟩:=ab.o.row;have af:=zq (Y.fr hF fun g' bw e=>by have:=(Y.blk bw).1;omega);have bq:=zq (J.frame fun k hk=>hF.block k (J.lt k hk).2 (by have:=(J.lt k hk).1;omega));have av:=zq (And.intro aW (And.intro aY (And.intro (fun b n=>(J.lt b n).2:∀ b∈L,b<z.heap.size) (fun b n=>(Y.blk n).2.1:∀ b,(Value.slice A l.length cap).ownBlock=some b->b<z.heap.size))));have aQ:=zq (And.intro (show Tree B z.heap.size x.f2 _ M from a7) aT);have au:=zq (show z.heap.size<=B.heap.size from hF.size);clear a7 hS hF q hj aT Y J aY aW)
    | (refine zco (w1.heap.size+1) (by rfl) (.tmp 29) (.tmp 35) 34 62 (.agg zfy) 11 176 rfl rfl rfl rfl kad (.slice A l.length cap) l.length cells [.int .i64 x.f0,.string x.f1,.int .i64 x.f2.f0,.string x.f2.f1,.string x.f2.f2,.slice A3 n3 c3,.slice A4 n4 c4,.slice A5 n5 c5,.slice A6 n6 c6,.int .i64 x.f2.f7,.int .i64 x.f3] rfl rfl rfl ?aU af.o ?aB ?aM ?aL ?_;(case aU=>intro u hu;simp at hu;rcases hu with rfl|rfl|rfl|rfl|rfl|rfl|rfl|rfl|rfl|rfl|rfl<;>rfl);(case aB=>have:=au.o;have:=aI.o;omega);(case aM=>simp only [maxLen];omega);(case aL=>omega);intro v1 w4 aF aA bb aZ;have aR:=zq (PInv.snoc E.o bz af.o bq.o av.o.1 av.o.2.1 aI.o av.o.2.2.1 av.o.2.2.2 aQ.o.1 aQ.o.2 aF aA bb aZ);have aH:=(aA.block _ (zam E.o.pol) (fun e=>by have:=(af.o.blk e.symm).1;have:=E.o.far;omega)).trans E.o.pol;have x1:=zab aH 0;have x2:=zac aH 0;simp only [qal,qaj] at x1;obtain ⟨A9,c9,rfl,-,-⟩:=aF.form;clear aF aA bb aZ aH))
   (all_goals refine noPanic_mk ?_);(all_goals (try go_wp2));all_goals
    go_roundg k
    case measure=>omega
    case rel=>exact ⟨j,l++[x],_,by first|exact aR|exact ⟨aR.o.drew⟩,U⟩
end
section
theorem zim (s:ByteArray) (W:World) (d:Inv W):Calls prog 11 #[.string s] W (zkp W (zgm s).1 (zgm s).2.1 (zgm s).2.2):=by
 unfold zgm;by_cases hf:(zbv s).2.1=0
 ·rw [if_neg (fun h=>h hf)];obtain ⟨r,q,e,_⟩:=zft s hf;obtain ⟨res,n⟩:=zjb (zme e) (by rw [e];simp);have h:=parse_items s W d hf res n;rw [n];cases res<;>exact h
 rw [if_pos hf];exact parse_scan s W d hf
end
end Go.Proofs.YtjeekocidaogoaaGreatDoor.H
