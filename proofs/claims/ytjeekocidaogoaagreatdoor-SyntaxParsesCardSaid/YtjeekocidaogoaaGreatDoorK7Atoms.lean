import Derived.Test.YtjeekocidaogoaaGreatDoorK7Addr
import Derived.Test.YtjeekocidaogoaaGreatDoorK7Shelf
set_option linter.unusedVariables false
set_option linter.unusedSimpArgs false
set_option maxRecDepth 100000
set_option maxHeartbeats 8000000
open Go.Proofs.Tryz
namespace Go.Proofs.YtjeekocidaogoaaGreatDoor.H
open Go.RowKit Go.Proofs.YtjeekocidaogoaaGreatDoor.Hand Go.Proofs.YtjeekocidaogoaaGreatDoorW.PrintWords Go.Proofs.YtjeekocidaogoaaGreatDoorW.PrintLast Go.Proofs.YtjeekocidaogoaaGreatDoorW.PrintMore
section
def zrb (W:World) (g T c:Nat) (toks:List Tok) (r:PR S60):Ending->World->Prop:=
 EndP r (fun x j e W'=>∃ cs L,e = .returned (.agg cs.toArray)/\Tree W' W.heap.size x cs L/\PSt W' g T c toks j/\Fr W W' (·=g)/\j<toks.length) (fun W'=>Fr W W' (·=g))
abbrev zbe:Array Value:=#[.int .i64 0,.string ⟨#[]⟩,.string ⟨#[]⟩,.slice none 0 0,.slice none 0 0,.slice none 0 0,.slice none 0 0,.int .i64 0]
structure Gath {β:Type} (enc:β->List Value) (mk:Value->Array Value) (W:World) (g T c r q ty sz:Nat) (toks:List Tok) (i:Nat) (acc:List β) (W':World):Prop where
 res:W'.heap[r+1]?=some (.cells zbe 60 (0,0))
 st:PSt W' g T c toks i
 fr:Fr W W' (·=g)
 ptr:W'.heap[r]?=some (.cells #[.pointer (some ⟨g,0,none⟩)] 71 (0,0))
 cnd:∃ v,W'.heap[q]?=some (.cells (mk v) 60 (0,0))/\Row W' W.heap.size ty sz v acc.length (acc.flatMap enc)
section
variable {β:Type} {enc:β->List Value} {mk:Value->Array Value} {W W1 W2:World} {g T c r q f ty sz i j:Nat} {toks:List Tok} {acc:List β}
theorem Gath.move (h:Gath enc mk W g T c r q ty sz toks i acc W1) (d:PSt W2 g T c toks j) (hF:Fr W1 W2 (·=g)) (hr:W.heap.size<=r) (m:W.heap.size<=q) (hg:g<W.heap.size):Gath enc mk W g T c r q ty sz toks j acc W2:=by
 obtain ⟨v,h1,b⟩:=h.cnd;exact ⟨hF.blk h.res kab,d,h.fr.trans hF,hF.blk h.ptr kab,v,hF.blk h1 kab,b.fr hF fun l k e=>by have:=(b.blk k).1;omega⟩
theorem Gath.one (h:Gath enc mk W g T c r q ty sz toks i acc W1) (hr:W.heap.size<=r) (z:r+1<q) (w:W.heap.size<=q) (hg:g<W.heap.size)
  (p:∀ v b,(mk v).setIfInBounds f b=mk b) {v:Value} (x:W1.heap[q]?=some (.cells (mk v) 60 (0,0))) (d:Row W1 W.heap.size ty sz v acc.length (acc.flatMap enc)) (s:ty≠71) (u:ty≠60) {y:β} {e:Ending}
  (k:OneP enc W1 W.heap.size g T c q f ty sz toks (mk v) acc.length (acc.flatMap enc) v (.ok y j) e W2):e = .returned (.tuple #[])/\Gath enc mk W g T c r q ty sz toks j (acc++[y]) W2:=by
 obtain ⟨⟨n,m,b,l,o⟩,hF⟩:=k;refine ⟨n,hF.blk h.res ?_,m,h.fr.then_ hF fun k hk=>?_,hF.blk h.ptr ?_,b,?_,?_⟩
 ·intro hk;rcases hk with hk|hk|hk
  ·omega
  ·omega
  exact d.ne h.res u hk.symm
 ·rcases hk with hk|hk|hk
  ·exact .inl hk
  ·exact .inr kab
  exact .inr (d.blk hk.symm).1
 ·intro hk;rcases hk with hk|hk|hk
  ·omega
  ·omega
  exact d.ne h.ptr s hk.symm
 ·rw [p] at l;exact l
 rw [qal,List.flatMap_append];simpa using o
theorem Gath.bad (h:Gath enc mk W g T c r q ty sz toks i acc W1) (d:W.heap.size<=q) {v:Value} (b:Row W1 W.heap.size ty sz v acc.length (acc.flatMap enc)) {k p:Int} {e:Ending} {cells:Array Value} {n:Nat} {xs:List Value}
  (hk:OneP (β:=β) enc W1 W.heap.size g T c q f ty sz toks cells n xs v (.bad k p) e W2):e = .panicked [zho k p]/\Fr W W2 (·=g):=by
 refine ⟨hk.1,h.fr.then_ hk.2 fun k hk=>?_⟩;rcases hk with hk|hk|hk
 ·exact .inl hk
 ·exact .inr kab
 exact .inr (b.blk hk.symm).1
theorem zfw (enc:β->List Value) (mk:Value->Array Value) {ty sz:Nat} (hs:PSt W g T c toks i) :
  Gath enc mk W g T c W.heap.size (W.heap.size+1+1) ty sz toks i [] (((W.alloc (.cells #[.pointer (some ⟨g,0,none⟩)] 71)).alloc (.cells zbe 60)).alloc (.cells (mk (.slice none 0 0)) 60)):=by
 have h1:=qab (W.alloc (.cells #[.pointer (some ⟨g,0,none⟩)] 71)) (.cells zbe 60);have b:=qab ((W.alloc (.cells #[.pointer (some ⟨g,0,none⟩)] 71)).alloc (.cells zbe 60)) (.cells (mk (.slice none 0 0)) 60);refine ⟨zaf (by simpa using h1) _,((hs.alloc _).alloc _).alloc _,(((Fr.refl W _).alloc _).alloc _).alloc _,zaf (zaf (qab W _) _) _,_,?_,Row.nil _ _ _ _⟩;simpa using b
abbrev zlj (W:World) (m:Nat) (v0 v1 v2 v3 v4 v5 b d:Value):World:=
 (((((((W.setCell ⟨m,0,none⟩ v0).setCell ⟨m,1,none⟩ v1).setCell ⟨m,2,none⟩ v2).setCell ⟨m,3,none⟩ v3).setCell ⟨m,4,none⟩ v4).setCell ⟨m,5,none⟩ v5).setCell ⟨m,6,none⟩ b).setCell ⟨m,7,none⟩ d
theorem zft {m t:Nat} {a0 a1 a2 a3 a4 a5 d b:Value} (h:W.heap[m]?=some (.cells #[a0,a1,a2,a3,a4,a5,d,b] t (0,0))) (v0 v1 v2 v3 v4 v5 e k:Value) :
  (zlj W m v0 v1 v2 v3 v4 v5 e k).heap[m]?=some (.cells #[v0,v1,v2,v3,v4,v5,e,k] t (0,0)):=by
 have l:_=some (Obj.cells #[v0,a1,a2,a3,a4,a5,d,b] t (0,0)):=zan h 0 v0 rfl;have n:_=some (Obj.cells #[v0,v1,a2,a3,a4,a5,d,b] t (0,0)):=zan l 1 v1 rfl;have o:_=some (Obj.cells #[v0,v1,v2,a3,a4,a5,d,b] t (0,0)):=zan n 2 v2 rfl;have p:_=some (Obj.cells #[v0,v1,v2,v3,a4,a5,d,b] t (0,0)):=zan o 3 v3 rfl;have s:_=some (Obj.cells #[v0,v1,v2,v3,v4,a5,d,b] t (0,0)):=zan p 4 v4 rfl;have u:_=some (Obj.cells #[v0,v1,v2,v3,v4,v5,d,b] t (0,0)):=zan s 5 v5 rfl;have w:_=some (Obj.cells #[v0,v1,v2,v3,v4,v5,e,b] t (0,0)):=zan u 6 e rfl;exact zan w 7 k rfl
theorem zbo (W:World) (m:Nat) (v0 v1 v2 v3 v4 v5 b d:Value):Fr W (zlj W m v0 v1 v2 v3 v4 v5 b d) (·=m):=by
 have e:=(Fr.refl W (·=m)).setCell (p:=⟨m,0,none⟩) (.inl rfl) v0;have k:=e.setCell (p:=⟨m,1,none⟩) (.inl rfl) v1;have l:=k.setCell (p:=⟨m,2,none⟩) (.inl rfl) v2;have n:=l.setCell (p:=⟨m,3,none⟩) (.inl rfl) v3;have o:=n.setCell (p:=⟨m,4,none⟩) (.inl rfl) v4;have s:=o.setCell (p:=⟨m,5,none⟩) (.inl rfl) v5;have u:=s.setCell (p:=⟨m,6,none⟩) (.inl rfl) b;exact u.setCell (p:=⟨m,7,none⟩) (.inl rfl) d
theorem Gath.over (h:Gath enc mk W g T c W.heap.size (W.heap.size+1+1) ty sz toks i acc W1) (hg:g<W.heap.size) (x:T<W.heap.size) {v l:Value} (h1:W1.heap[W.heap.size+1+1]?=some (.cells (mk v) 60 (0,0)))
  (m:Row W1 W.heap.size ty sz l acc.length (acc.flatMap enc)) (o:ty≠60) (v0 v1 v2 v3 v4 v5 p s:Value) :
  let W2:=zlj (W1.setCell ⟨W.heap.size+1+1,f,none⟩ l) (W.heap.size+1) v0 v1 v2 v3 v4 v5 p s
  W2.heap[W.heap.size+1]?=some (.cells #[v0,v1,v2,v3,v4,v5,p,s] 60 (0,0))/\PSt W2 g T c toks i/\Fr W W2 (·=g)/\Row W2 W.heap.size ty sz l acc.length (acc.flatMap enc):=by
 intro W2;have b:Fr W1 (W1.setCell ⟨W.heap.size+1+1,f,none⟩ l) (·=W.heap.size+1+1):=Fr.setCell (S:=(·=W.heap.size+1+1)) (Fr.refl _ _) (.inl rfl) _;have n:=zbo (W1.setCell ⟨W.heap.size+1+1,f,none⟩ l) (W.heap.size+1) v0 v1 v2 v3 v4 v5 p s;have w:=b.blk h.res kab;refine ⟨zft w _ _ _ _ _ _ _ _,(h.st.fr b kab kab).fr n kab kab,(h.fr.then_ b fun k hk => .inr kab).then_ n fun k hk => .inr kab,?_⟩;exact (m.fr b fun u d e=>m.ne h1 o (by rw [d,e])).fr n fun u d e=>(m.fr b fun u d e=>m.ne h1 o (by rw [d,e])).ne w o (by rw [d,e])
end
theorem zmd (l:List ByteArray):l.flatMap (fun p=>[Value.string p])=zic l:=by
 induction l with
 | nil=>rfl
 | cons a l b=>simp only [List.flatMap_cons,zic,qcf] at b ⊢;rw [b];rfl
theorem addrE_ok {toks:List Tok} (aa:∀ k,k<toks.length->(tk toks k).kind≠8->k+1<toks.length) (i:Nat) (y:S47) (j:Nat) (hi:i<toks.length) (h:zgh toks i = .ok y j):j<toks.length/\(tk toks i).kind=5:=by
 unfold zgh ofP at h;by_cases hk:(tk toks i).kind=5
 ·rw [if_pos hk] at h;simp only [PR.bind,PR.ok.injEq] at h;exact ⟨by rw [<-h.2];exact aa i hi kab,hk⟩
 rw [if_neg hk] at h;cases h
theorem addr_facts {W w1:World} {g T c j:Nat} {toks:List Tok} {l:List S47} {a:Int} (h:Gath (fun p:S47=>[Value.int .i64 p.f0,Value.int .i64 p.f1]) (fun v=>#[.int .i64 7,.string ⟨#[]⟩,.string ⟨#[]⟩,v,.slice none 0 0,.slice none 0 0,.slice none 0 0,.int .i64 a]) W g T c W.heap.size (W.heap.size+1+1) 47 2 toks j l w1) :
  ∃ A cap,l.length<=cap/\Zq (w1.heap[W.heap.size+1+1]?=some (.cells ((fun v=>#[.int .i64 7,.string ⟨#[]⟩,.string ⟨#[]⟩,v,.slice none 0 0,.slice none 0 0,.slice none 0 0,.int .i64 a]) (.slice A l.length cap)) 60 (0,0)))/\Zq (Row w1 W.heap.size 47 2 (.slice A l.length cap) l.length (l.flatMap (fun p:S47=>[Value.int .i64 p.f0,Value.int .i64 p.f1]))) /\
  w1.cell? ⟨W.heap.size+1+1,3,none⟩=some (.slice A l.length cap)/\w1.frozen? ⟨W.heap.size+1+1,3,none⟩=false/\(w1.setCell ⟨W.heap.size+1+1,3,none⟩ (.slice A l.length l.length)).cell? ⟨W.heap.size+1+1,0,none⟩=some (.int .i64 7)/\(w1.setCell ⟨W.heap.size+1+1,3,none⟩ (.slice A l.length l.length)).cell? ⟨W.heap.size+1+1,1,none⟩=some (.string ⟨#[]⟩)/\(w1.setCell ⟨W.heap.size+1+1,3,none⟩ (.slice A l.length l.length)).cell? ⟨W.heap.size+1+1,2,none⟩=some (.string ⟨#[]⟩)/\(w1.setCell ⟨W.heap.size+1+1,3,none⟩ (.slice A l.length l.length)).cell? ⟨W.heap.size+1+1,3,none⟩=some (.slice A l.length l.length)/\(w1.setCell ⟨W.heap.size+1+1,3,none⟩ (.slice A l.length l.length)).cell? ⟨W.heap.size+1+1,4,none⟩=some (.slice none 0 0)/\(w1.setCell ⟨W.heap.size+1+1,3,none⟩ (.slice A l.length l.length)).cell? ⟨W.heap.size+1+1,5,none⟩=some (.slice none 0 0)/\(w1.setCell ⟨W.heap.size+1+1,3,none⟩ (.slice A l.length l.length)).cell? ⟨W.heap.size+1+1,6,none⟩=some (.slice none 0 0)/\(w1.setCell ⟨W.heap.size+1+1,3,none⟩ (.slice A l.length l.length)).cell? ⟨W.heap.size+1+1,7,none⟩=some (.int .i64 a)/\w1.frozen? ⟨W.heap.size+1,0,none⟩=false/\w1.frozen? ⟨W.heap.size+1,1,none⟩=false/\w1.frozen? ⟨W.heap.size+1,2,none⟩=false/\w1.frozen? ⟨W.heap.size+1,3,none⟩=false/\w1.frozen? ⟨W.heap.size+1,4,none⟩=false/\w1.frozen? ⟨W.heap.size+1,5,none⟩=false/\w1.frozen? ⟨W.heap.size+1,6,none⟩=false/\w1.frozen? ⟨W.heap.size+1,7,none⟩=false/\w1.cell? ⟨W.heap.size+1,0,none⟩=some (.int .i64 0)/\w1.cell? ⟨W.heap.size+1,1,none⟩=some (.string ⟨#[]⟩)/\w1.cell? ⟨W.heap.size+1,2,none⟩=some (.string ⟨#[]⟩)/\w1.cell? ⟨W.heap.size+1,3,none⟩=some (.slice none 0 0)/\w1.cell? ⟨W.heap.size+1,4,none⟩=some (.slice none 0 0)/\w1.cell? ⟨W.heap.size+1,5,none⟩=some (.slice none 0 0)/\w1.cell? ⟨W.heap.size+1,6,none⟩=some (.slice none 0 0)/\w1.cell? ⟨W.heap.size+1,7,none⟩=some (.int .i64 0):=by
 obtain ⟨v,h1,d⟩:=h.cnd;obtain ⟨A,cap,rfl,e,_⟩:=d.form;have b:_=some (Obj.cells #[.int .i64 7,.string ⟨#[]⟩,.string ⟨#[]⟩,.slice A l.length l.length,.slice none 0 0,.slice none 0 0,.slice none 0 0,.int .i64 a] 60 (0,0)):=zan h1 3 (.slice A l.length l.length) rfl;exact ⟨A,cap,e,⟨h1⟩,⟨d⟩,zab h1 3,zac h1 3,zab b 0,zab b 1,zab b 2,zab b 3,zab b 4,zab b 5,zab b 6,zab b 7,zac h.res 0,zac h.res 1,zac h.res 2,zac h.res 3,zac h.res 4,zac h.res 5,zac h.res 6,zac h.res 7,zab h.res 0,zab h.res 1,zab h.res 2,zab h.res 3,zab h.res 4,zab h.res 5,zab h.res 6,zab h.res 7⟩
theorem addr_calls (W:World) (g T c:Nat) (toks:List Tok) (aa:∀ k,k<toks.length->(tk toks k).kind≠8->k+1<toks.length) (K i:Nat) (hi:i<toks.length) (a:Int) (hs:PSt W g T c toks i) (res:PR (List S47)) (u:zhk toks (zgh toks) 5 K i=some res) :
  Calls prog 177 #[.pointer (some ⟨g,0,none⟩),.int .i64 a] W (zrb W g T c toks (res.bind fun l j => .ok ⟨7,⟨#[]⟩,⟨#[]⟩,l,[],[],[],a⟩ j)):=by
 have hg:=hs.lts.1;have L:=hs.lts.2.1;have m:=zq (fun W1 (M:Gath (fun p:S47=>[Value.int .i64 p.f0,Value.int .i64 p.f1]) (fun v=>#[.int .i64 7,.string ⟨#[]⟩,.string ⟨#[]⟩,v,.slice none 0 0,.slice none 0 0,.slice none 0 0,.int .i64 a]) W g T c W.heap.size (W.heap.size+1+1) 47 2 toks i [] W1)=>
  zjz toks (zgh toks) 5 199 (.pointer (some ⟨W.heap.size+1+1,0,none⟩)) (.pointer (some ⟨W.heap.size,0,none⟩)) g T c
   (fun i acc W'=>Gath (fun p:S47=>[Value.int .i64 p.f0,Value.int .i64 p.f1]) (fun v=>#[.int .i64 7,.string ⟨#[]⟩,.string ⟨#[]⟩,v,.slice none 0 0,.slice none 0 0,.slice none 0 0,.int .i64 a]) W g T c W.heap.size (W.heap.size+1+1) 47 2 toks i acc W') (fun W'=>Fr W W' (·=g))
   (fun w=>by kernel_rfl) aa (fun _ _ _ h=>h.st) (fun _ _ _ _ _ h J hF=>h.move J hF kab kab hg) (fun _ _ _ _ h hF=>h.fr.trans hF)
   (fun i acc W' hi hl h=>by
    obtain ⟨v,h1,b⟩:=h.cnd;refine (addr_one W' W.heap.size g T c W.heap.size (W.heap.size+1+1) toks i ((fun v=>#[.int .i64 7,.string ⟨#[]⟩,.string ⟨#[]⟩,v,.slice none 0 0,.slice none 0 0,.slice none 0 0,.int .i64 a]) v) acc.length (acc.flatMap _) v hi h.st h.fr.size kab h.ptr h1 rfl b).mono fun e W2 hk=>?_;cases s:zgh toks i with
    | bad Y Z=>rw [s] at hk;exact h.bad kab b hk
    | ok y j=>rw [s] at hk;exact h.one kab kab kab hg (fun _ _=>rfl) h1 b kad kad hk)
   (addrE_ok aa) K i res u W1 M hi)
 have af:∀ (fn:Fn) (first cap:Array Value) (w:World),(Instr.makeFunc fn first cap).run prog w = .ok (.func fn first cap) w:=fun _ _ _ _=>rfl;clear u;have n:=zq hs;clear hs;cases res with
 | bad Y Z=>
  go_enter func177,ntmps177;go_wp2_with (go_at_call 198;refine (m.o _ (zfw _ (fun v=>#[.int .i64 7,.string ⟨#[]⟩,.string ⟨#[]⟩,v,.slice none 0 0,.slice none 0 0,.slice none 0 0,.int .i64 a]) n.o)).mono ?_;rintro I w1 ⟨rfl,hF⟩);exact ⟨rfl,rfl,hF⟩
 | ok l j=>
  go_enter func177,ntmps177;go_wp2_with (first
   | (go_at_call 198;refine (m.o _ (zfw _ (fun v=>#[.int .i64 7,.string ⟨#[]⟩,.string ⟨#[]⟩,v,.slice none 0 0,.slice none 0 0,.slice none 0 0,.int .i64 a]) n.o)).mono ?_;rintro I w1 ⟨rfl,d,X,ad⟩;obtain ⟨A,cap,U,x,z,c3,f3,d0,d1,d2,d3,d4,d5,d6,d7,z0,z1,z2,z3,z4,z5,z6,z7,y0,y1,y2,y3,y4,y5,y6,y7⟩:=addr_facts d;have O:l.length<=140737488355328:=kab;have a1:¬W.heap.size+1+1=W.heap.size+1:=kab;have HX:=zq d;clear d)
   | (go_at_call 200;refine (clip_prefix _ _ _ _ U O).mono ?_;rintro e2 w2 ⟨rfl,hw⟩;subst w2))
  obtain ⟨B,D,E,G⟩:=HX.o.over (f:=3) hg L x.o z.o.clip kad (.int .i64 7) (.string ⟨#[]⟩) (.string ⟨#[]⟩) (.slice A l.length l.length) (.slice none 0 0) (.slice none 0 0) (.slice none 0 0) (.int .i64 a);refine qaf (qau rfl _ _ (W.heap.size+1) 60 #[.int .i64 7,.string ⟨#[]⟩,.string ⟨#[]⟩,.slice A l.length l.length,.slice none 0 0,.slice none 0 0,.slice none 0 0,.int .i64 a] (0,0) _ rfl B underlying60 rfl kae) rfl ?_;exact ⟨_,_,rfl,.mk G.clip (Row.nil _ _ _ _) (Row.nil _ _ _ _) (Row.nil _ _ _ _) .nil,D,E,X⟩
theorem portE_ok {toks:List Tok} (aa:∀ k,k<toks.length->(tk toks k).kind≠8->k+1<toks.length) (i:Nat) (y:S68) (j:Nat) (hi:i<toks.length) (h:zfi toks i = .ok y j):j<toks.length/\(tk toks i).kind=4:=by
 unfold zfi ofP at h;by_cases hk:(tk toks i).kind=4
 ·rw [if_pos hk] at h;have h1:=aa i hi kab;simp only [PR.bind] at h;refine ⟨?_,hk⟩;by_cases b:isT (tk toks (i+1)) zba=true
  ·have e:=aa (i+1) h1 (zcd b);rw [if_pos b] at h;by_cases d:(tk toks (i+1+1)).kind=4
   ·rw [if_pos d] at h;simp only [PR.ok.injEq] at h;rw [<-h.2];exact aa (i+1+1) e kab
   rw [if_neg d] at h;cases h
  rw [if_neg b] at h;simp only [PR.ok.injEq] at h;rw [<-h.2];exact h1
 rw [if_neg hk] at h;cases h
theorem port_facts {W w1:World} {g T c j:Nat} {toks:List Tok} {l:List S68} {a:Int} (h:Gath (fun p:S68=>[Value.int .i64 p.f0,Value.int .i64 p.f1]) (fun v=>#[.int .i64 8,.string ⟨#[]⟩,.string ⟨#[]⟩,.slice none 0 0,v,.slice none 0 0,.slice none 0 0,.int .i64 a]) W g T c W.heap.size (W.heap.size+1+1) 68 2 toks j l w1) :
  ∃ A cap,l.length<=cap/\Zq (w1.heap[W.heap.size+1+1]?=some (.cells ((fun v=>#[.int .i64 8,.string ⟨#[]⟩,.string ⟨#[]⟩,.slice none 0 0,v,.slice none 0 0,.slice none 0 0,.int .i64 a]) (.slice A l.length cap)) 60 (0,0)))/\Zq (Row w1 W.heap.size 68 2 (.slice A l.length cap) l.length (l.flatMap (fun p:S68=>[Value.int .i64 p.f0,Value.int .i64 p.f1]))) /\
  w1.cell? ⟨W.heap.size+1+1,4,none⟩=some (.slice A l.length cap)/\w1.frozen? ⟨W.heap.size+1+1,4,none⟩=false/\(w1.setCell ⟨W.heap.size+1+1,4,none⟩ (.slice A l.length l.length)).cell? ⟨W.heap.size+1+1,0,none⟩=some (.int .i64 8)/\(w1.setCell ⟨W.heap.size+1+1,4,none⟩ (.slice A l.length l.length)).cell? ⟨W.heap.size+1+1,1,none⟩=some (.string ⟨#[]⟩)/\(w1.setCell ⟨W.heap.size+1+1,4,none⟩ (.slice A l.length l.length)).cell? ⟨W.heap.size+1+1,2,none⟩=some (.string ⟨#[]⟩)/\(w1.setCell ⟨W.heap.size+1+1,4,none⟩ (.slice A l.length l.length)).cell? ⟨W.heap.size+1+1,3,none⟩=some (.slice none 0 0)/\(w1.setCell ⟨W.heap.size+1+1,4,none⟩ (.slice A l.length l.length)).cell? ⟨W.heap.size+1+1,4,none⟩=some (.slice A l.length l.length)/\(w1.setCell ⟨W.heap.size+1+1,4,none⟩ (.slice A l.length l.length)).cell? ⟨W.heap.size+1+1,5,none⟩=some (.slice none 0 0)/\(w1.setCell ⟨W.heap.size+1+1,4,none⟩ (.slice A l.length l.length)).cell? ⟨W.heap.size+1+1,6,none⟩=some (.slice none 0 0)/\(w1.setCell ⟨W.heap.size+1+1,4,none⟩ (.slice A l.length l.length)).cell? ⟨W.heap.size+1+1,7,none⟩=some (.int .i64 a)/\w1.frozen? ⟨W.heap.size+1,0,none⟩=false/\w1.frozen? ⟨W.heap.size+1,1,none⟩=false/\w1.frozen? ⟨W.heap.size+1,2,none⟩=false/\w1.frozen? ⟨W.heap.size+1,3,none⟩=false/\w1.frozen? ⟨W.heap.size+1,4,none⟩=false/\w1.frozen? ⟨W.heap.size+1,5,none⟩=false/\w1.frozen? ⟨W.heap.size+1,6,none⟩=false/\w1.frozen? ⟨W.heap.size+1,7,none⟩=false/\w1.cell? ⟨W.heap.size+1,0,none⟩=some (.int .i64 0)/\w1.cell? ⟨W.heap.size+1,1,none⟩=some (.string ⟨#[]⟩)/\w1.cell? ⟨W.heap.size+1,2,none⟩=some (.string ⟨#[]⟩)/\w1.cell? ⟨W.heap.size+1,3,none⟩=some (.slice none 0 0)/\w1.cell? ⟨W.heap.size+1,4,none⟩=some (.slice none 0 0)/\w1.cell? ⟨W.heap.size+1,5,none⟩=some (.slice none 0 0)/\w1.cell? ⟨W.heap.size+1,6,none⟩=some (.slice none 0 0)/\w1.cell? ⟨W.heap.size+1,7,none⟩=some (.int .i64 0):=by
 obtain ⟨v,h1,d⟩:=h.cnd;obtain ⟨A,cap,rfl,e,_⟩:=d.form;have b:_=some (Obj.cells #[.int .i64 8,.string ⟨#[]⟩,.string ⟨#[]⟩,.slice none 0 0,.slice A l.length l.length,.slice none 0 0,.slice none 0 0,.int .i64 a] 60 (0,0)):=zan h1 4 (.slice A l.length l.length) rfl;exact ⟨A,cap,e,⟨h1⟩,⟨d⟩,zab h1 4,zac h1 4,zab b 0,zab b 1,zab b 2,zab b 3,zab b 4,zab b 5,zab b 6,zab b 7,zac h.res 0,zac h.res 1,zac h.res 2,zac h.res 3,zac h.res 4,zac h.res 5,zac h.res 6,zac h.res 7,zab h.res 0,zab h.res 1,zab h.res 2,zab h.res 3,zab h.res 4,zab h.res 5,zab h.res 6,zab h.res 7⟩
theorem port_calls (W:World) (g T c:Nat) (toks:List Tok) (aa:∀ k,k<toks.length->(tk toks k).kind≠8->k+1<toks.length) (K i:Nat) (hi:i<toks.length) (a:Int) (hs:PSt W g T c toks i) (res:PR (List S68)) (u:zhk toks (zfi toks) 4 K i=some res) :
  Calls prog 178 #[.pointer (some ⟨g,0,none⟩),.int .i64 a] W (zrb W g T c toks (res.bind fun l j => .ok ⟨8,⟨#[]⟩,⟨#[]⟩,[],l,[],[],a⟩ j)):=by
 have hg:=hs.lts.1;have L:=hs.lts.2.1;have m:=zq (fun W1 (M:Gath (fun p:S68=>[Value.int .i64 p.f0,Value.int .i64 p.f1]) (fun v=>#[.int .i64 8,.string ⟨#[]⟩,.string ⟨#[]⟩,.slice none 0 0,v,.slice none 0 0,.slice none 0 0,.int .i64 a]) W g T c W.heap.size (W.heap.size+1+1) 68 2 toks i [] W1)=>
  zjz toks (zfi toks) 4 201 (.pointer (some ⟨W.heap.size,0,none⟩)) (.pointer (some ⟨W.heap.size+1+1,0,none⟩)) g T c
   (fun i acc W'=>Gath (fun p:S68=>[Value.int .i64 p.f0,Value.int .i64 p.f1]) (fun v=>#[.int .i64 8,.string ⟨#[]⟩,.string ⟨#[]⟩,.slice none 0 0,v,.slice none 0 0,.slice none 0 0,.int .i64 a]) W g T c W.heap.size (W.heap.size+1+1) 68 2 toks i acc W') (fun W'=>Fr W W' (·=g))
   (fun w=>by kernel_rfl) aa (fun _ _ _ h=>h.st) (fun _ _ _ _ _ h J hF=>h.move J hF kab kab hg) (fun _ _ _ _ h hF=>h.fr.trans hF)
   (fun i acc W' hi hl h=>by
    obtain ⟨v,h1,b⟩:=h.cnd;refine (port_one W' W.heap.size g T c W.heap.size (W.heap.size+1+1) toks i ((fun v=>#[.int .i64 8,.string ⟨#[]⟩,.string ⟨#[]⟩,.slice none 0 0,v,.slice none 0 0,.slice none 0 0,.int .i64 a]) v) acc.length (acc.flatMap _) v hi aa h.st h.fr.size kab h.ptr h1 rfl b).mono fun e W2 hk=>?_;cases s:zfi toks i with
    | bad Y Z=>rw [s] at hk;exact h.bad kab b hk
    | ok y j=>rw [s] at hk;exact h.one kab kab kab hg (fun _ _=>rfl) h1 b kad kad hk)
   (portE_ok aa) K i res u W1 M hi)
 have af:∀ (fn:Fn) (first cap:Array Value) (w:World),(Instr.makeFunc fn first cap).run prog w = .ok (.func fn first cap) w:=fun _ _ _ _=>rfl;clear u;have n:=zq hs;clear hs;cases res with
 | bad Y Z=>
  go_enter func178,ntmps178;go_wp2_with (go_at_call 198;refine (m.o _ (zfw _ (fun v=>#[.int .i64 8,.string ⟨#[]⟩,.string ⟨#[]⟩,.slice none 0 0,v,.slice none 0 0,.slice none 0 0,.int .i64 a]) n.o)).mono ?_;rintro I w1 ⟨rfl,hF⟩);exact ⟨rfl,rfl,hF⟩
 | ok l j=>
  go_enter func178,ntmps178;go_wp2_with (first
   | (go_at_call 198;refine (m.o _ (zfw _ (fun v=>#[.int .i64 8,.string ⟨#[]⟩,.string ⟨#[]⟩,.slice none 0 0,v,.slice none 0 0,.slice none 0 0,.int .i64 a]) n.o)).mono ?_;rintro I w1 ⟨rfl,d,X,ad⟩;obtain ⟨A,cap,U,x,z,c3,f3,d0,d1,d2,d3,d4,d5,d6,d7,z0,z1,z2,z3,z4,z5,z6,z7,y0,y1,y2,y3,y4,y5,y6,y7⟩:=port_facts d;have O:l.length<=140737488355328:=kab;have a1:¬W.heap.size+1+1=W.heap.size+1:=kab;have HX:=zq d;clear d)
   | (go_at_call 202;refine (clip_span _ _ _ _ U O).mono ?_;rintro e2 w2 ⟨rfl,hw⟩;subst w2))
  obtain ⟨B,D,E,G⟩:=HX.o.over (f:=4) hg L x.o z.o.clip kad (.int .i64 8) (.string ⟨#[]⟩) (.string ⟨#[]⟩) (.slice none 0 0) (.slice A l.length l.length) (.slice none 0 0) (.slice none 0 0) (.int .i64 a);refine qaf (qau rfl _ _ (W.heap.size+1) 60 #[.int .i64 8,.string ⟨#[]⟩,.string ⟨#[]⟩,.slice none 0 0,.slice A l.length l.length,.slice none 0 0,.slice none 0 0,.int .i64 a] (0,0) _ rfl B underlying60 rfl kae) rfl ?_;exact ⟨_,_,rfl,.mk (Row.nil _ _ _ _) G.clip (Row.nil _ _ _ _) (Row.nil _ _ _ _) .nil,D,E,X⟩
theorem methodE_ok {toks:List Tok} (aa:∀ k,k<toks.length->(tk toks k).kind≠8->k+1<toks.length) (i:Nat) (y:ByteArray) (j:Nat) (hi:i<toks.length) (h:zdq toks i = .ok y j):j<toks.length/\(tk toks i).kind=3:=by
 unfold zdq ofP at h;by_cases hk:(tk toks i).kind=3
 ·rw [if_pos hk] at h;simp only [PR.bind,PR.ok.injEq] at h;exact ⟨by rw [<-h.2];exact aa i hi kab,hk⟩
 rw [if_neg hk] at h;cases h
theorem method_facts {W w1:World} {g T c j:Nat} {toks:List Tok} {l:List ByteArray} {a:Int} (h:Gath (fun p:ByteArray=>[Value.string p]) (fun v=>#[.int .i64 9,.string ⟨#[]⟩,.string ⟨#[]⟩,.slice none 0 0,.slice none 0 0,v,.slice none 0 0,.int .i64 a]) W g T c W.heap.size (W.heap.size+1+1) 9 1 toks j l w1) :
  ∃ A cap,l.length<=cap/\Zq (w1.heap[W.heap.size+1+1]?=some (.cells ((fun v=>#[.int .i64 9,.string ⟨#[]⟩,.string ⟨#[]⟩,.slice none 0 0,.slice none 0 0,v,.slice none 0 0,.int .i64 a]) (.slice A l.length cap)) 60 (0,0)))/\Zq (Row w1 W.heap.size 9 1 (.slice A l.length cap) l.length (l.flatMap (fun p:ByteArray=>[Value.string p]))) /\
  w1.cell? ⟨W.heap.size+1+1,5,none⟩=some (.slice A l.length cap)/\w1.frozen? ⟨W.heap.size+1+1,5,none⟩=false/\(w1.setCell ⟨W.heap.size+1+1,5,none⟩ (.slice A l.length l.length)).cell? ⟨W.heap.size+1+1,0,none⟩=some (.int .i64 9)/\(w1.setCell ⟨W.heap.size+1+1,5,none⟩ (.slice A l.length l.length)).cell? ⟨W.heap.size+1+1,1,none⟩=some (.string ⟨#[]⟩)/\(w1.setCell ⟨W.heap.size+1+1,5,none⟩ (.slice A l.length l.length)).cell? ⟨W.heap.size+1+1,2,none⟩=some (.string ⟨#[]⟩)/\(w1.setCell ⟨W.heap.size+1+1,5,none⟩ (.slice A l.length l.length)).cell? ⟨W.heap.size+1+1,3,none⟩=some (.slice none 0 0)/\(w1.setCell ⟨W.heap.size+1+1,5,none⟩ (.slice A l.length l.length)).cell? ⟨W.heap.size+1+1,4,none⟩=some (.slice none 0 0)/\(w1.setCell ⟨W.heap.size+1+1,5,none⟩ (.slice A l.length l.length)).cell? ⟨W.heap.size+1+1,5,none⟩=some (.slice A l.length l.length)/\(w1.setCell ⟨W.heap.size+1+1,5,none⟩ (.slice A l.length l.length)).cell? ⟨W.heap.size+1+1,6,none⟩=some (.slice none 0 0)/\(w1.setCell ⟨W.heap.size+1+1,5,none⟩ (.slice A l.length l.length)).cell? ⟨W.heap.size+1+1,7,none⟩=some (.int .i64 a)/\w1.frozen? ⟨W.heap.size+1,0,none⟩=false/\w1.frozen? ⟨W.heap.size+1,1,none⟩=false/\w1.frozen? ⟨W.heap.size+1,2,none⟩=false/\w1.frozen? ⟨W.heap.size+1,3,none⟩=false/\w1.frozen? ⟨W.heap.size+1,4,none⟩=false/\w1.frozen? ⟨W.heap.size+1,5,none⟩=false/\w1.frozen? ⟨W.heap.size+1,6,none⟩=false/\w1.frozen? ⟨W.heap.size+1,7,none⟩=false/\w1.cell? ⟨W.heap.size+1,0,none⟩=some (.int .i64 0)/\w1.cell? ⟨W.heap.size+1,1,none⟩=some (.string ⟨#[]⟩)/\w1.cell? ⟨W.heap.size+1,2,none⟩=some (.string ⟨#[]⟩)/\w1.cell? ⟨W.heap.size+1,3,none⟩=some (.slice none 0 0)/\w1.cell? ⟨W.heap.size+1,4,none⟩=some (.slice none 0 0)/\w1.cell? ⟨W.heap.size+1,5,none⟩=some (.slice none 0 0)/\w1.cell? ⟨W.heap.size+1,6,none⟩=some (.slice none 0 0)/\w1.cell? ⟨W.heap.size+1,7,none⟩=some (.int .i64 0):=by
 obtain ⟨v,h1,d⟩:=h.cnd;obtain ⟨A,cap,rfl,e,_⟩:=d.form;have b:_=some (Obj.cells #[.int .i64 9,.string ⟨#[]⟩,.string ⟨#[]⟩,.slice none 0 0,.slice none 0 0,.slice A l.length l.length,.slice none 0 0,.int .i64 a] 60 (0,0)):=zan h1 5 (.slice A l.length l.length) rfl;exact ⟨A,cap,e,⟨h1⟩,⟨d⟩,zab h1 5,zac h1 5,zab b 0,zab b 1,zab b 2,zab b 3,zab b 4,zab b 5,zab b 6,zab b 7,zac h.res 0,zac h.res 1,zac h.res 2,zac h.res 3,zac h.res 4,zac h.res 5,zac h.res 6,zac h.res 7,zab h.res 0,zab h.res 1,zab h.res 2,zab h.res 3,zab h.res 4,zab h.res 5,zab h.res 6,zab h.res 7⟩
theorem method_calls (W:World) (g T c:Nat) (toks:List Tok) (aa:∀ k,k<toks.length->(tk toks k).kind≠8->k+1<toks.length) (K i:Nat) (hi:i<toks.length) (a:Int) (hs:PSt W g T c toks i) (res:PR (List ByteArray)) (u:zhk toks (zdq toks) 3 K i=some res) :
  Calls prog 179 #[.pointer (some ⟨g,0,none⟩),.int .i64 a] W (zrb W g T c toks (res.bind fun l j => .ok ⟨9,⟨#[]⟩,⟨#[]⟩,[],[],l,[],a⟩ j)):=by
 have hg:=hs.lts.1;have L:=hs.lts.2.1;have m:=zq (fun W1 (M:Gath (fun p:ByteArray=>[Value.string p]) (fun v=>#[.int .i64 9,.string ⟨#[]⟩,.string ⟨#[]⟩,.slice none 0 0,.slice none 0 0,v,.slice none 0 0,.int .i64 a]) W g T c W.heap.size (W.heap.size+1+1) 9 1 toks i [] W1)=>
  zjz toks (zdq toks) 3 203 (.pointer (some ⟨W.heap.size+1+1,0,none⟩)) (.pointer (some ⟨W.heap.size,0,none⟩)) g T c
   (fun i acc W'=>Gath (fun p:ByteArray=>[Value.string p]) (fun v=>#[.int .i64 9,.string ⟨#[]⟩,.string ⟨#[]⟩,.slice none 0 0,.slice none 0 0,v,.slice none 0 0,.int .i64 a]) W g T c W.heap.size (W.heap.size+1+1) 9 1 toks i acc W') (fun W'=>Fr W W' (·=g))
   (fun w=>by kernel_rfl) aa (fun _ _ _ h=>h.st) (fun _ _ _ _ _ h J hF=>h.move J hF kab kab hg) (fun _ _ _ _ h hF=>h.fr.trans hF)
   (fun i acc W' hi hl h=>by
    obtain ⟨v,h1,b⟩:=h.cnd;refine (method_one W' W.heap.size g T c W.heap.size (W.heap.size+1+1) toks i ((fun v=>#[.int .i64 9,.string ⟨#[]⟩,.string ⟨#[]⟩,.slice none 0 0,.slice none 0 0,v,.slice none 0 0,.int .i64 a]) v) acc.length (acc.flatMap _) v hi h.st h.fr.size kab h.ptr h1 rfl b).mono fun e W2 hk=>?_;cases s:zdq toks i with
    | bad Y Z=>rw [s] at hk;exact h.bad kab b hk
    | ok y j=>rw [s] at hk;exact h.one kab kab kab hg (fun _ _=>rfl) h1 b kad kad hk)
   (methodE_ok aa) K i res u W1 M hi)
 have af:∀ (fn:Fn) (first cap:Array Value) (w:World),(Instr.makeFunc fn first cap).run prog w = .ok (.func fn first cap) w:=fun _ _ _ _=>rfl;clear u;have n:=zq hs;clear hs;cases res with
 | bad Y Z=>
  go_enter func179,ntmps179;go_wp2_with (go_at_call 198;refine (m.o _ (zfw _ (fun v=>#[.int .i64 9,.string ⟨#[]⟩,.string ⟨#[]⟩,.slice none 0 0,.slice none 0 0,v,.slice none 0 0,.int .i64 a]) n.o)).mono ?_;rintro I w1 ⟨rfl,hF⟩);exact ⟨rfl,rfl,hF⟩
 | ok l j=>
  go_enter func179,ntmps179;go_wp2_with (first
   | (go_at_call 198;refine (m.o _ (zfw _ (fun v=>#[.int .i64 9,.string ⟨#[]⟩,.string ⟨#[]⟩,.slice none 0 0,.slice none 0 0,v,.slice none 0 0,.int .i64 a]) n.o)).mono ?_;rintro I w1 ⟨rfl,d,X,ad⟩;obtain ⟨A,cap,U,x,z,c3,f3,d0,d1,d2,d3,d4,d5,d6,d7,z0,z1,z2,z3,z4,z5,z6,z7,y0,y1,y2,y3,y4,y5,y6,y7⟩:=method_facts d;have O:l.length<=140737488355328:=kab;have a1:¬W.heap.size+1+1=W.heap.size+1:=kab;have HX:=zq d;clear d)
   | (go_at_call 204;refine (clip_string _ _ _ _ U O).mono ?_;rintro e2 w2 ⟨rfl,hw⟩;subst w2))
  obtain ⟨B,D,E,G⟩:=HX.o.over (f:=5) hg L x.o z.o.clip kad (.int .i64 9) (.string ⟨#[]⟩) (.string ⟨#[]⟩) (.slice none 0 0) (.slice none 0 0) (.slice A l.length l.length) (.slice none 0 0) (.int .i64 a);refine qaf (qau rfl _ _ (W.heap.size+1) 60 #[.int .i64 9,.string ⟨#[]⟩,.string ⟨#[]⟩,.slice none 0 0,.slice none 0 0,.slice A l.length l.length,.slice none 0 0,.int .i64 a] (0,0) _ rfl B underlying60 rfl kae) rfl ?_;exact ⟨_,_,rfl,.mk (Row.nil _ _ _ _) (Row.nil _ _ _ _) (zmd l ▸ G.clip) (Row.nil _ _ _ _) .nil,D,E,X⟩
end
section
theorem zaw {w:World} {m:Nat} (h:w.heap[m]?=some (.cells zbe 60 (0,0))):w.cell? ⟨m,0,none⟩=some (.int .i64 0)/\w.cell? ⟨m,1,none⟩=some (.string ⟨#[]⟩)/\w.cell? ⟨m,2,none⟩=some (.string ⟨#[]⟩)/\w.cell? ⟨m,3,none⟩=some (.slice none 0 0)/\w.cell? ⟨m,4,none⟩=some (.slice none 0 0)/\w.cell? ⟨m,5,none⟩=some (.slice none 0 0)/\w.cell? ⟨m,6,none⟩=some (.slice none 0 0)/\w.cell? ⟨m,7,none⟩=some (.int .i64 0)/\w.frozen? ⟨m,0,none⟩=false/\w.frozen? ⟨m,1,none⟩=false/\w.frozen? ⟨m,2,none⟩=false/\w.frozen? ⟨m,3,none⟩=false/\w.frozen? ⟨m,4,none⟩=false/\w.frozen? ⟨m,5,none⟩=false/\w.frozen? ⟨m,6,none⟩=false/\w.frozen? ⟨m,7,none⟩=false:=⟨zab h 0,zab h 1,zab h 2,zab h 3,zab h 4,zab h 5,zab h 6,zab h 7,zac h 0,zac h 1,zac h 2,zac h 3,zac h 4,zac h 5,zac h 6,zac h 7⟩
theorem zdw {W w:World} {g T c i:Nat} {toks:List Tok} (hg:g<W.heap.size) (m:T<W.heap.size) (h:w.heap[W.heap.size]?=some (.cells zbe 60 (0,0))) (l:PSt w g T c toks i) (hF:Fr W w (·=g)) (v0 v1 v2 v3 v4 v5 b d:Value) :
  let W2:=zlj w W.heap.size v0 v1 v2 v3 v4 v5 b d
  W2.heap[W.heap.size]?=some (.cells #[v0,v1,v2,v3,v4,v5,b,d] 60 (0,0))/\PSt W2 g T c toks i/\Fr W W2 (·=g):=by
 intro W2;have e:=zbo w W.heap.size v0 v1 v2 v3 v4 v5 b d;exact ⟨zft h _ _ _ _ _ _ _ _,l.fr e kab kab,hF.then_ e fun k hk => .inr kab⟩
theorem path_calls (W:World) (g T c:Nat) (toks:List Tok) (aa:∀ k,k<toks.length->(tk toks k).kind≠8->k+1<toks.length) (i:Nat) (hi:i<toks.length) (a:Int) (hs:PSt W g T c toks i) :
  Calls prog 180 #[.pointer (some ⟨g,0,none⟩),.int .i64 a] W (zrb W g T c toks ((zdg toks zcn i).bind fun _ j=>(ofP toks 6 j).bind fun u m => .ok ⟨10,⟨#[]⟩,u.text,[],[],[],[],a⟩ m)):=by
 have hg:=hs.lts.1;have O:=hs.lts.2.1;have X:=zgy;have E:=zq (fun W' j s p (e:PSt W' g T c toks j)=>zeh W' g T c toks j _ (zdp toks p) s e);have D:=zq (fun W' j k p (e:PSt W' g T c toks j)=>zgu W' g T c toks j _ (zdp toks p) k e);have ae:=zq (hs.alloc (.cells zbe 60));have w:=zq (qab W (.cells zbe 60));have n:=zq ((Fr.refl W (·=g)).alloc (.cells zbe 60));clear hs;unfold zdg ofP;have d:=zq (fun W' e=>E.o W' (i) zcn hi e);by_cases c0:isT (tk toks (i)) zcn=true
 ·have A:=aa (i) hi (zcd c0);simp only [if_pos c0,PR.bind] at d ⊢;have l:=zq (fun W' e=>D.o W' (i+1) 6 A e);by_cases c1:(tk toks (i+1)).kind=6
  ·have U:=aa (i+1) A kab;simp only [if_pos c1,PR.bind] at l ⊢;go_enter func180,ntmps180;go_wp2_with (first
    | (go_at_call 53;refine (d.o _ ae.o).mono ?_;rintro z w0 ⟨⟨rfl,b⟩,hF⟩;have ab:=zq b;have x:=zq (hF.blk w.o kah);have an:=zq (n.o.trans hF);clear b hF d ae)
    | (go_at_call 52;refine (l.o _ ab.o).mono ?_;rintro M w1 ⟨⟨rfl,b⟩,hF⟩;have G:=zq b;have y:=zq (hF.blk x.o kah);have B:=zq (an.o.trans hF);obtain ⟨Y,Z,y2,y3,y4,y5,y6,y7,z0,z1,z2,z3,z4,z5,z6,z7⟩:=zaw y.o;clear b hF l ab))
   obtain ⟨I,J,L⟩:=zdw hg O y.o G.o B.o (.int .i64 10) (.string ⟨#[]⟩) (.string (tk toks (i+1)).text) (.slice none 0 0) (.slice none 0 0) (.slice none 0 0) (.slice none 0 0) (.int .i64 a);refine qaf (qau rfl _ _ W.heap.size 60 #[.int .i64 10,.string ⟨#[]⟩,.string (tk toks (i+1)).text,.slice none 0 0,.slice none 0 0,.slice none 0 0,.slice none 0 0,.int .i64 a] (0,0) _ rfl I underlying60 rfl kae) rfl ?_;exact ⟨_,_,rfl,.mk (Row.nil _ _ _ _) (Row.nil _ _ _ _) (Row.nil _ _ _ _) (Row.nil _ _ _ _) .nil,J,L,U⟩
  simp only [if_neg c1,PR.bind] at l ⊢;go_enter func180,ntmps180;go_wp2_with (first
   | (go_at_call 53;refine (d.o _ ae.o).mono ?_;rintro z w0 ⟨⟨rfl,b⟩,hF⟩;have ab:=zq b;have x:=zq (hF.blk w.o kah);have an:=zq (n.o.trans hF);clear b hF d ae)
   | (go_at_call 52;refine (l.o _ ab.o).mono ?_;rintro M w1 ⟨rfl,hF⟩;have HB:=an.o.trans hF))
  exact ⟨rfl,rfl,HB⟩
 simp only [if_neg c0,PR.bind] at d ⊢;go_enter func180,ntmps180;go_wp2_with (first
  | (go_at_call 53;refine (d.o _ ae.o).mono ?_;rintro z w0 ⟨rfl,hF⟩;have HB:=n.o.trans hF))
 exact ⟨rfl,rfl,HB⟩
theorem header_calls (W:World) (g T c:Nat) (toks:List Tok) (aa:∀ k,k<toks.length->(tk toks k).kind≠8->k+1<toks.length) (i:Nat) (hi:i<toks.length) (a:Int) (hs:PSt W g T c toks i) :
  Calls prog 181 #[.pointer (some ⟨g,0,none⟩),.int .i64 a] W (zrb W g T c toks ((ofP toks 6 i).bind fun n j=>(zdg toks zcn j).bind fun _ m=>(ofP toks 6 m).bind fun u q => .ok ⟨11,n.text,u.text,[],[],[],[],a⟩ q)):=by
 have hg:=hs.lts.1;have hT:=hs.lts.2.1;have af:=zgy;have U:=zq (fun W' j s D (e:PSt W' g T c toks j)=>zeh W' g T c toks j _ (zdp toks D) s e);have E:=zq (fun W' j k D (e:PSt W' g T c toks j)=>zgu W' g T c toks j _ (zdp toks D) k e);have ae:=zq (hs.alloc (.cells zbe 60));have A:=zq (qab W (.cells zbe 60));have w:=zq ((Fr.refl W (·=g)).alloc (.cells zbe 60));clear hs;unfold zdg ofP;have d:=zq (fun W' e=>E.o W' (i) 6 hi e);by_cases c0:(tk toks (i)).kind=6
 ·have L:=aa (i) hi kab;simp only [if_pos c0,PR.bind] at d ⊢;have l:=zq (fun W' e=>U.o W' (i+1) zcn L e);by_cases c1:isT (tk toks (i+1)) zcn=true
  ·have M:=aa (i+1) L (zcd c1);simp only [if_pos c1,PR.bind] at l ⊢;have p:=zq (fun W' e=>E.o W' (i+1+1) 6 M e);by_cases c2:(tk toks (i+1+1)).kind=6
   ·have ad:=aa (i+1+1) M kab;simp only [if_pos c2,PR.bind] at p ⊢;go_enter func181,ntmps181;go_wp2_with (first
     | (go_at_call 52;refine (d.o _ ae.o).mono ?_;rintro B w0 ⟨⟨rfl,b⟩,hF⟩;have ab:=zq b;have y:=zq (hF.blk A.o kah);have an:=zq (w.o.trans hF);clear b hF d ae)
     | (go_at_call 53;refine (l.o _ ab.o).mono ?_;rintro J w1 ⟨⟨rfl,b⟩,hF⟩;have x:=zq b;have G:=zq (hF.blk y.o kah);have z:=zq (an.o.trans hF);clear b hF l ab)
     | (go_at_call 52;refine (p.o _ x.o).mono ?_;rintro e2 w2 ⟨⟨rfl,b⟩,hF⟩;have X:=zq b;have I:=zq (hF.blk G.o kah);have O:=zq (z.o.trans hF);obtain ⟨y0,y1,y2,y3,y4,y5,y6,y7,z0,z1,z2,z3,z4,z5,z6,z7⟩:=zaw I.o;clear b hF p x))
    obtain ⟨Y,Z,R3⟩:=zdw hg hT I.o X.o O.o (.int .i64 11) (.string (tk toks i).text) (.string (tk toks (i+1+1)).text) (.slice none 0 0) (.slice none 0 0) (.slice none 0 0) (.slice none 0 0) (.int .i64 a);refine qaf (qau rfl _ _ W.heap.size 60 #[.int .i64 11,.string (tk toks i).text,.string (tk toks (i+1+1)).text,.slice none 0 0,.slice none 0 0,.slice none 0 0,.slice none 0 0,.int .i64 a] (0,0) _ rfl Y underlying60 rfl kae) rfl ?_;exact ⟨_,_,rfl,.mk (Row.nil _ _ _ _) (Row.nil _ _ _ _) (Row.nil _ _ _ _) (Row.nil _ _ _ _) .nil,Z,R3,ad⟩
   simp only [if_neg c2,PR.bind] at p ⊢;go_enter func181,ntmps181;go_wp2_with (first
    | (go_at_call 52;refine (d.o _ ae.o).mono ?_;rintro B w0 ⟨⟨rfl,b⟩,hF⟩;have ab:=zq b;have y:=zq (hF.blk A.o kah);have an:=zq (w.o.trans hF);clear b hF d ae)
    | (go_at_call 53;refine (l.o _ ab.o).mono ?_;rintro J w1 ⟨⟨rfl,b⟩,hF⟩;have x:=zq b;have G:=zq (hF.blk y.o kah);have z:=zq (an.o.trans hF);clear b hF l ab)
    | (go_at_call 52;refine (p.o _ x.o).mono ?_;rintro e2 w2 ⟨rfl,hF⟩;have HB:=z.o.trans hF))
   exact ⟨rfl,rfl,HB⟩
  simp only [if_neg c1,PR.bind] at l ⊢;go_enter func181,ntmps181;go_wp2_with (first
   | (go_at_call 52;refine (d.o _ ae.o).mono ?_;rintro B w0 ⟨⟨rfl,b⟩,hF⟩;have ab:=zq b;have y:=zq (hF.blk A.o kah);have an:=zq (w.o.trans hF);clear b hF d ae)
   | (go_at_call 53;refine (l.o _ ab.o).mono ?_;rintro J w1 ⟨rfl,hF⟩;have HB:=an.o.trans hF))
  exact ⟨rfl,rfl,HB⟩
 simp only [if_neg c0,PR.bind] at d ⊢;go_enter func181,ntmps181;go_wp2_with (first
  | (go_at_call 52;refine (d.o _ ae.o).mono ?_;rintro B w0 ⟨rfl,hF⟩;have HB:=w.o.trans hF))
 exact ⟨rfl,rfl,HB⟩
theorem has_calls (W:World) (g T c:Nat) (toks:List Tok) (aa:∀ k,k<toks.length->(tk toks k).kind≠8->k+1<toks.length) (i:Nat) (hi:i<toks.length) (a:Int) (hs:PSt W g T c toks i) :
  Calls prog 182 #[.pointer (some ⟨g,0,none⟩),.int .i64 a] W (zrb W g T c toks ((ofP toks 6 i).bind fun n j => .ok ⟨12,n.text,⟨#[]⟩,[],[],[],[],a⟩ j)):=by
 have hg:=hs.lts.1;have B:=hs.lts.2.1;have G:=zgy;have E:=zq (fun W' j s e (d:PSt W' g T c toks j)=>zeh W' g T c toks j _ (zdp toks e) s d);have u:=zq (fun W' j k e (d:PSt W' g T c toks j)=>zgu W' g T c toks j _ (zdp toks e) k d);have ae:=zq (hs.alloc (.cells zbe 60));have w:=zq (qab W (.cells zbe 60));have l:=zq ((Fr.refl W (·=g)).alloc (.cells zbe 60));clear hs;unfold ofP;have b:=zq (fun W' d=>u.o W' (i) 6 hi d);by_cases c0:(tk toks (i)).kind=6
 ·have D:=aa (i) hi kab;simp only [if_pos c0,PR.bind] at b ⊢;go_enter func182,ntmps182;go_wp2_with (first
   | (go_at_call 52;refine (b.o _ ae.o).mono ?_;rintro A w0 ⟨⟨rfl,p⟩,hF⟩;have ab:=zq p;have m:=zq (hF.blk w.o kah);have an:=zq (l.o.trans hF);obtain ⟨I,J,L,y3,y4,M,y6,O,z0,z1,z2,z3,z4,z5,U,X⟩:=zaw m.o;clear p hF b ae))
  obtain ⟨x,y,z⟩:=zdw hg B m.o ab.o an.o (.int .i64 12) (.string (tk toks i).text) (.string ⟨#[]⟩) (.slice none 0 0) (.slice none 0 0) (.slice none 0 0) (.slice none 0 0) (.int .i64 a);refine qaf (qau rfl _ _ W.heap.size 60 #[.int .i64 12,.string (tk toks i).text,.string ⟨#[]⟩,.slice none 0 0,.slice none 0 0,.slice none 0 0,.slice none 0 0,.int .i64 a] (0,0) _ rfl x underlying60 rfl kae) rfl ?_;exact ⟨_,_,rfl,.mk (Row.nil _ _ _ _) (Row.nil _ _ _ _) (Row.nil _ _ _ _) (Row.nil _ _ _ _) .nil,y,z,D⟩
 simp only [if_neg c0,PR.bind] at b ⊢;go_enter func182,ntmps182;go_wp2_with (first
  | (go_at_call 52;refine (b.o _ ae.o).mono ?_;rintro A w0 ⟨rfl,hF⟩;have HB:=l.o.trans hF))
 exact ⟨rfl,rfl,HB⟩
end
end Go.Proofs.YtjeekocidaogoaaGreatDoor.H
namespace Go.Proofs.YtjeekocidaogoaaGreatDoor.H
open Go.RowKit Go.Proofs.YtjeekocidaogoaaGreatDoorW.PrintWords
section
theorem zcl {w:World} {g t:Nat} {c0 c1 c2 c3 c4 c5:Value} (h:w.heap[g]?=some (.cells #[c0,c1,c2,c3,c4,c5] t (0,0))) (v0 v1 v2 v3 v4 v5:Value) :
  ((((((w.setCell ⟨g,0,none⟩ v0).setCell ⟨g,1,none⟩ v1).setCell ⟨g,2,none⟩ v2).setCell ⟨g,3,none⟩ v3).setCell ⟨g,4,none⟩ v4).setCell ⟨g,5,none⟩ v5).heap[g]?=some (.cells #[v0,v1,v2,v3,v4,v5] t (0,0)):=
 zan (zan (zan (zan (zan (zan h 0 v0 rfl) 1 v1 rfl) 2 v2 rfl) 3 v3 rfl) 4 v4 rfl) 5 v5 rfl
theorem zby {w:World} {g t:Nat} {c0 c1 c2 c3 c4 c5:Value} (h:w.heap[g]?=some (.cells #[c0,c1,c2,c3,c4,c5] t (0,0))) :
  w.cell? ⟨g,0,none⟩=some c0/\w.cell? ⟨g,1,none⟩=some c1/\w.cell? ⟨g,2,none⟩=some c2/\w.cell? ⟨g,3,none⟩=some c3/\w.cell? ⟨g,4,none⟩=some c4/\w.cell? ⟨g,5,none⟩=some c5 /\
   w.frozen? ⟨g,0,none⟩=false/\w.frozen? ⟨g,1,none⟩=false/\w.frozen? ⟨g,2,none⟩=false/\w.frozen? ⟨g,3,none⟩=false/\w.frozen? ⟨g,4,none⟩=false/\w.frozen? ⟨g,5,none⟩=false:=
 ⟨zab h 0,zab h 1,zab h 2,zab h 3,zab h 4,zab h 5,zac h 0,zac h 1,zac h 2,zac h 3,zac h 4,zac h 5⟩
theorem hbd {α β:Type} {x:Option α} {f:α->Option β} {r:β} (h:x.bind f=some r):∃ t,Zq (x=some t)/\f t=some r:=by
 obtain ⟨t,h1,b⟩:=qba.mp h;exact ⟨t,⟨h1⟩,b⟩
theorem hif {c:Prop} [Decidable c] {α:Type} {x:Option α} {r:α} (h:(if c then x else none)=some r):c/\x=some r:=by
 by_cases b:c
 ·rw [if_pos b] at h;exact ⟨b,h⟩
 rw [if_neg b] at h;cases h
theorem zbw {W w:World} {b g:Nat} (h:Below b W w) (hg:b<=g) (v0 v1 v2 v3 v4 v5:Value) :
  Below b W ((((((w.setCell ⟨g,0,none⟩ v0).setCell ⟨g,1,none⟩ v1).setCell ⟨g,2,none⟩ v2).setCell ⟨g,3,none⟩ v3).setCell ⟨g,4,none⟩ v4).setCell ⟨g,5,none⟩ v5):=
 (((((h.setCell (p:=⟨g,0,none⟩) hg v0).setCell (p:=⟨g,1,none⟩) hg v1).setCell (p:=⟨g,2,none⟩) hg v2).setCell (p:=⟨g,3,none⟩) hg v3).setCell (p:=⟨g,4,none⟩) hg v4).setCell (p:=⟨g,5,none⟩) hg v5
theorem six_far {w:World} {k g t:Nat} {cs:Array Value} (h:w.heap[k]?=some (.cells cs t (0,0))) (b:k≠g) (v0 v1 v2 v3 v4 v5:Value) :
  ((((((w.setCell ⟨g,0,none⟩ v0).setCell ⟨g,1,none⟩ v1).setCell ⟨g,2,none⟩ v2).setCell ⟨g,3,none⟩ v3).setCell ⟨g,4,none⟩ v4).setCell ⟨g,5,none⟩ v5).heap[k]?=some (.cells cs t (0,0)):=
 zav (p:=⟨g,5,none⟩) (zav (p:=⟨g,4,none⟩) (zav (p:=⟨g,3,none⟩) (zav (p:=⟨g,2,none⟩) (zav (p:=⟨g,1,none⟩) (zav (p:=⟨g,0,none⟩) h b v0) b v1) b v2) b v3) b v4) b v5
theorem zgo {w w':World} {g:Nat} {o:Obj} (hd:Drawn0 w w') (h:w.heap[g]?=some o):w'.heap[g]?=some o:=by
 obtain ⟨n,rfl⟩:=hd;exact zah h n
theorem zff {b:Nat} {W w w':World} (hd:Drawn0 w w') (h:Below b W w):Below b W w':=by
 obtain ⟨n,rfl⟩:=hd;exact zaa h n
end
end Go.Proofs.YtjeekocidaogoaaGreatDoor.H
namespace Go.Proofs.YtjeekocidaogoaaGreatDoor.H
open Go.RowKit Go.Proofs.YtjeekocidaogoaaGreatDoor.Hand Go.Proofs.YtjeekocidaogoaaGreatDoorW.PrintWords Go.Proofs.YtjeekocidaogoaaGreatDoorW.PrintLast Go.Proofs.YtjeekocidaogoaaGreatDoorW.PrintMore
section
attribute [local go_sem] zdv zdt zel zek zcz zcy zdu zds
def lychgatelaw09_add.f (a0:Int) (a1:Int):Option (Int):=if a1>(wrap64 (2147483647-a0)) then (some 2147483648) else (some (wrap64 (a0+a1)))
theorem lychgatelaw09_add.calls (a0:Int) (a1:Int) (r:Int) (w:World) (h:lychgatelaw09_add.f a0 a1=some r) :
  Calls prog 9 #[.int .i64 a0,.int .i64 a1] w fun e w'=>e = .returned (.int .i64 r)/\Drawn0 w w':=by
 have H:(if a1>(wrap64 (2147483647-a0)) then (some 2147483648) else (some (wrap64 (a0+a1))))=some r:=h;clear h;by_cases c3:a1>(wrap64 (2147483647-a0))
 ·rw [if_pos c3] at H;have b:decide ((wrap64 (2147483647-a0))<a1)=true:=qac c3;clear c3;obtain rfl:=qaa H;go_enter func9,ntmps9;go_wp2;go_ret;exact ⟨kaf,by repeat (first|exact Drawn0.refl _|apply Drawn0.step)⟩
 rw [if_neg c3] at H;have b:decide ((wrap64 (2147483647-a0))<a1)=false:=qak c3;clear c3;obtain rfl:=qaa H;go_enter func9,ntmps9;go_wp2;go_ret;exact ⟨kaf,by repeat (first|exact Drawn0.refl _|apply Drawn0.step)⟩
def lychgatelaw09_thrice.f (a0:Int):Option (Int):=(lychgatelaw09_add.f a0 a0).bind fun t101=>((lychgatelaw09_add.f a0 t101).bind fun t102=>(some t102))
theorem lychgatelaw09_thrice.calls (a0:Int) (r:Int) (w:World) (h:lychgatelaw09_thrice.f a0=some r) :
  Calls prog 8 #[.int .i64 a0] w fun e w'=>e = .returned (.int .i64 r)/\Drawn0 w w':=by
 have H:((lychgatelaw09_add.f a0 a0).bind fun t101=>((lychgatelaw09_add.f a0 t101).bind fun t102=>(some t102)))=some r:=h;clear h;replace H:=qba.mp H;obtain ⟨t101,b,H⟩:=H;replace H:((lychgatelaw09_add.f a0 t101).bind fun t102=>(some t102))=some r:=H;have k:=zq b;clear b;replace H:=qba.mp H;obtain ⟨t102,d,H⟩:=H;replace H:(some t102)=some r:=H;have l:=zq d;clear d;obtain rfl:=qaa H;go_enter func8,ntmps8;go_wp2_with (first|((with_reducible refine zar (f:=9) rfl ?_);refine zbs (some 6) rfl rfl func9 kae rfl #[.int .i64 a0,.int .i64 a0] rfl kac ?_;(with_reducible refine (lychgatelaw09_add.calls a0 a0 t101 _ k.o).mono ?_);rintro e w' ⟨rfl,⟨m,rfl⟩⟩;refine ⟨_,rfl,?_⟩)|((with_reducible refine zar (f:=9) rfl ?_);refine zbs (some 7) rfl rfl func9 kae rfl #[.int .i64 a0,.int .i64 t101] rfl kac ?_;(with_reducible refine (lychgatelaw09_add.calls a0 t101 t102 _ l.o).mono ?_);rintro e w' ⟨rfl,⟨m,rfl⟩⟩;refine ⟨_,rfl,?_⟩));go_ret;exact ⟨kaf,by repeat (first|exact Drawn0.refl _|apply Drawn0.step)⟩
def lex_isSmall.f (a0:Int):Option (Bool):=if a0>=97 then (some (decide (a0<=122))) else (some false)
theorem lex_isSmall.calls (a0:Int) (r:Bool) (w:World) (h:lex_isSmall.f a0=some r) :
  Calls prog 93 #[.int .i32 a0] w fun e w'=>e = .returned (.bool r)/\Drawn0 w w':=by
 have H:(if a0>=97 then (some (decide (a0<=122))) else (some false))=some r:=h;clear h;by_cases c2:a0>=97
 ·rw [if_pos c2] at H;have b:decide (97<=a0)=true:=qac c2;clear c2;obtain rfl:=qaa H;go_enter func93,ntmps93;go_wp2;go_ret;exact ⟨kaf,by repeat (first|exact Drawn0.refl _|apply Drawn0.step)⟩
 rw [if_neg c2] at H;have b:decide (97<=a0)=false:=qak c2;clear c2;obtain rfl:=qaa H;go_enter func93,ntmps93;go_wp2;go_ret;exact ⟨kaf,by repeat (first|exact Drawn0.refl _|apply Drawn0.step)⟩
def lex_isGreat.f (a0:Int):Option (Bool):=if a0>=65 then (some (decide (a0<=90))) else (some false)
theorem lex_isGreat.calls (a0:Int) (r:Bool) (w:World) (h:lex_isGreat.f a0=some r) :
  Calls prog 94 #[.int .i32 a0] w fun e w'=>e = .returned (.bool r)/\Drawn0 w w':=by
 have H:(if a0>=65 then (some (decide (a0<=90))) else (some false))=some r:=h;clear h;by_cases c2:a0>=65
 ·rw [if_pos c2] at H;have b:decide (65<=a0)=true:=qac c2;clear c2;obtain rfl:=qaa H;go_enter func94,ntmps94;go_wp2;go_ret;exact ⟨kaf,by repeat (first|exact Drawn0.refl _|apply Drawn0.step)⟩
 rw [if_neg c2] at H;have b:decide (65<=a0)=false:=qak c2;clear c2;obtain rfl:=qaa H;go_enter func94,ntmps94;go_wp2;go_ret;exact ⟨kaf,by repeat (first|exact Drawn0.refl _|apply Drawn0.step)⟩
def lex_isDigit.f (a0:Int):Option (Bool):=if a0>=48 then (some (decide (a0<=57))) else (some false)
theorem lex_isDigit.calls (a0:Int) (r:Bool) (w:World) (h:lex_isDigit.f a0=some r) :
  Calls prog 95 #[.int .i32 a0] w fun e w'=>e = .returned (.bool r)/\Drawn0 w w':=by
 have H:(if a0>=48 then (some (decide (a0<=57))) else (some false))=some r:=h;clear h;by_cases c2:a0>=48
 ·rw [if_pos c2] at H;have b:decide (48<=a0)=true:=qac c2;clear c2;obtain rfl:=qaa H;go_enter func95,ntmps95;go_wp2;go_ret;exact ⟨kaf,by repeat (first|exact Drawn0.refl _|apply Drawn0.step)⟩
 rw [if_neg c2] at H;have b:decide (48<=a0)=false:=qak c2;clear c2;obtain rfl:=qaa H;go_enter func95,ntmps95;go_wp2;go_ret;exact ⟨kaf,by repeat (first|exact Drawn0.refl _|apply Drawn0.step)⟩
def lex_begins.f (a0:Int):Option (Int):=(strings_ContainsRune.f (⟨#[32,9,10,13]⟩:ByteArray) a0).bind fun t103=>(if t103=true then (some 1) else (if a0=35 then (some 2) else ((lex_isSmall.f a0).bind fun t104=>(if t104=true then (some 3) else ((lex_isGreat.f a0).bind fun t105=>(if t105=true then (some 4) else ((lex_isDigit.f a0).bind fun t106=>(if t106=true then (some 5) else (if a0=34 then (some 6) else ((strings_ContainsRune.f (⟨#[123,125,40,41,44,59,61,126,45]⟩:ByteArray) a0).bind fun t107=>(if t107=true then (some 7) else (some 0))))))))))))
theorem lex_begins.calls (a0:Int) (r:Int) (w:World) (h:lex_begins.f a0=some r) :
  Calls prog 60 #[.int .i32 a0] w fun e w'=>e = .returned (.int .i64 r)/\Below w.heap.size w w':=by
 have HB:=zq (qan w.heap.size w);have H:((strings_ContainsRune.f (⟨#[32,9,10,13]⟩:ByteArray) a0).bind fun t103=>(if t103=true then (some 1) else (if a0=35 then (some 2) else ((lex_isSmall.f a0).bind fun t104=>(if t104=true then (some 3) else ((lex_isGreat.f a0).bind fun t105=>(if t105=true then (some 4) else ((lex_isDigit.f a0).bind fun t106=>(if t106=true then (some 5) else (if a0=34 then (some 6) else ((strings_ContainsRune.f (⟨#[123,125,40,41,44,59,61,126,45]⟩:ByteArray) a0).bind fun t107=>(if t107=true then (some 7) else (some 0)))))))))))))=some r:=h;clear h;obtain ⟨t103,B,H⟩:=kbd H;try dsimp only at H
 by_cases c3:t103=true
 focus
  subst c3;rw [if_pos rfl] at H;obtain rfl:=qaa H;have L:=trivial
 rotate_right
 focus
  obtain rfl:=qbf.mpr c3;rw [if_neg kft] at H;by_cases c5:a0=35
  focus
   rw [if_pos c5] at H;have G:(a0==35)=true:=qar.mpr c5;have I:(a0 !=35)=false:=qaq.mpr c5;clear c5;obtain rfl:=qaa H;have M:=trivial
  rotate_right
  focus
   rw [if_neg c5] at H;have G:(a0==35)=false:=qah.mpr c5;have I:(a0 !=35)=true:=qbc.mpr c5;obtain ⟨t104,A7,H⟩:=kbd H;(try dsimp only at H);by_cases c8:t104=true
   focus
    subst c8;rw [if_pos rfl] at H;obtain rfl:=qaa H;have O:=trivial
   rotate_right
   focus
    obtain rfl:=qbf.mpr c8;rw [if_neg kft] at H;obtain ⟨t105,y,H⟩:=kbd H;(try dsimp only at H);by_cases m:t105=true
    focus
     subst m;rw [if_pos rfl] at H;obtain rfl:=qaa H;have U:=trivial
    rotate_right
    focus
     obtain rfl:=qbf.mpr m;rw [if_neg kft] at H;obtain ⟨t106,z,H⟩:=kbd H;(try dsimp only at H);by_cases n:t106=true
     focus
      subst n;rw [if_pos rfl] at H;obtain rfl:=qaa H;have X:=trivial
     rotate_right
     focus
      obtain rfl:=qbf.mpr n;rw [if_neg kft] at H;by_cases d:a0=34
      focus
       rw [if_pos d] at H;have D:(a0==34)=true:=qar.mpr d;have E:(a0 !=34)=false:=qaq.mpr d;clear d;obtain rfl:=qaa H;have Y:=trivial
      rotate_right
      focus
       rw [if_neg d] at H;have D:(a0==34)=false:=qah.mpr d;have E:(a0 !=34)=true:=qbc.mpr d;replace H:=qba.mp H;obtain ⟨t107,l,H⟩:=H;replace H:(if t107=true then (some 7) else (some 0))=some r:=H;have A:=zq l;clear l;by_cases p:t107=true
       focus
        subst p;rw [if_pos rfl] at H;obtain rfl:=qaa H;have u:=trivial
       rotate_right
       focus
        obtain rfl:=qbf.mpr p;rw [if_neg kft] at H;obtain rfl:=qaa H;have x:=trivial
 all_goals (go_enter func60,ntmps60;go_wp2_with (first|((first|have b:=L|have b:=M|have b:=O|have b:=U|have b:=X|have b:=Y|have b:=u|have b:=x);(with_reducible refine zar (f:=92) rfl ?_);refine zbs (some 5) rfl rfl func92 kae rfl #[.string (⟨#[32,9,10,13]⟩:ByteArray),.int .i32 a0] rfl kac ?_;(with_reducible refine (strings_ContainsRune.calls (⟨#[32,9,10,13]⟩:ByteArray) a0 _ _ B.o).mono ?_);rintro e Z ⟨rfl,k⟩;refine ⟨_,rfl,?_⟩;replace HB:=zq (zau kaa k);(try clear k);(try clear J);(try clear hk);(try clear hi))|((with_reducible refine zar (f:=93) rfl ?_);refine zbs (some 11) rfl rfl func93 kae rfl #[.int .i32 a0] rfl kac ?_;(with_reducible refine (lex_isSmall.calls a0 _ _ A7.o).mono ?_);rintro e w' ⟨rfl,⟨s,rfl⟩⟩;refine ⟨_,rfl,?_⟩)|((with_reducible refine zar (f:=94) rfl ?_);refine zbs (some 14) rfl rfl func94 kae rfl #[.int .i32 a0] rfl kac ?_;(with_reducible refine (lex_isGreat.calls a0 _ _ y.o).mono ?_);rintro e w' ⟨rfl,⟨s,rfl⟩⟩;refine ⟨_,rfl,?_⟩)|((with_reducible refine zar (f:=95) rfl ?_);refine zbs (some 17) rfl rfl func95 kae rfl #[.int .i32 a0] rfl kac ?_;(with_reducible refine (lex_isDigit.calls a0 _ _ z.o).mono ?_);rintro e w' ⟨rfl,⟨s,rfl⟩⟩;refine ⟨_,rfl,?_⟩)|((first|have b:=u|have b:=x);(with_reducible refine zar (f:=92) rfl ?_);refine zbs (some 23) rfl rfl func92 kae rfl #[.string (⟨#[123,125,40,41,44,59,61,126,45]⟩:ByteArray),.int .i32 a0] rfl kac ?_;(with_reducible refine (strings_ContainsRune.calls (⟨#[123,125,40,41,44,59,61,126,45]⟩:ByteArray) a0 _ _ A.o).mono ?_);rintro e ad ⟨rfl,k⟩;refine ⟨_,rfl,?_⟩;replace HB:=zq (zau kaa k);(try clear k);(try clear J);(try clear hk);(try clear hi)));((go_ret);(exact ⟨by first|rfl|(simp [zap,zao]<;>rfl)|(simp [*,zap,zao]<;>rfl),kaa⟩)))
def lex_quoted.l0:Nat->ByteArray->List Int->Int->Option (ByteArray×Int×Bool)
 | 0,_,_,_=>none
 | k+1,d,e,b=>if b<(d.size:Int) then (if 0<=b then (if (bt d b)=34 then (some (strOfNums e,wrap64 (b+1),decide ((e.length:Int)<=200))) else (if (bt d b)=92 then (if (wrap64 (b+1))=(d.size:Int) then (some ((⟨#[]⟩:ByteArray),0,false)) else (if 0<=(wrap64 (b+1)) then (if (wrap64 (b+1))<(d.size:Int) then (if (bt d (wrap64 (b+1)))=34 then (if e.length<140737488355328 then (lex_quoted.l0 k d (e++[bt d (wrap64 (b+1))]) (wrap64 ((wrap64 (b+1))+1))) else (none)) else (if (bt d (wrap64 (b+1)))=92 then (if e.length<140737488355328 then (lex_quoted.l0 k d (e++[bt d (wrap64 (b+1))]) (wrap64 ((wrap64 (b+1))+1))) else (none)) else (some ((⟨#[]⟩:ByteArray),0,false)))) else (none)) else (none))) else (if (bt d b)<32 then (some ((⟨#[]⟩:ByteArray),0,false)) else (if (bt d b)>126 then (some ((⟨#[]⟩:ByteArray),0,false)) else (if e.length<140737488355328 then (lex_quoted.l0 k d (e++[bt d b]) (wrap64 (b+1))) else (none)))))) else (none)) else (some ((⟨#[]⟩:ByteArray),0,false))
def lex_quoted.f (k:Nat) (a0:ByteArray):Option (ByteArray×Int×Bool):=lex_quoted.l0 k a0 ([]:List Int) 1
theorem lex_quoted.mono_l:∀ k,(∀ b d e,LeO (lex_quoted.l0 k b d e) (lex_quoted.l0 (k+1) b d e))
 | 0=>fun _ _ _ r h=>by simp [lex_quoted.l0] at h
 | k+1=>by
  have l:=lex_quoted.mono_l k;intro b d e;unfold lex_quoted.l0
  repeat' first
  | (with_reducible exact l _ _ _)
  | (with_reducible exact LeO.refl _)
  | (with_reducible exact LeO.none _)
  | (with_reducible refine LeO.ite ?_ ?_)
  | (with_reducible refine LeO.bind ?_ (fun _=>?_))
  | exact l _ _ _
  | exact LeO.none _
  | refine LeO.ite ?_ ?_
  | refine LeO.bind ?_ (fun _=>?_)
theorem lex_quoted.mono:∀ a0 k,LeO (lex_quoted.f k a0) (lex_quoted.f (k+1) a0):=by
 intro a0 k;have b:=lex_quoted.mono_l k;unfold lex_quoted.f
 repeat' first
   | (with_reducible exact b _ _ _)
   | (with_reducible exact LeO.refl _)
   | (with_reducible exact LeO.none _)
   | (with_reducible refine LeO.ite ?_ ?_)
   | (with_reducible refine LeO.bind ?_ (fun _=>?_))
   | exact b _ _ _
   | exact LeO.none _
   | refine LeO.ite ?_ ?_
   | refine LeO.bind ?_ (fun _=>?_)
theorem lex_quoted.calls (k:Nat) (a0:ByteArray) (r1:ByteArray) (r2:Int) (r3:Bool) (w:World) (h:lex_quoted.f k a0=some (r1,r2,r3)) :
  Calls prog 61 #[.string a0] w fun e w'=>e = .returned (.tuple #[.string r1,.int .i64 r2,.bool r3])/\Below w.heap.size w w':=by
 have HB:=zq (qan w.heap.size w);have H:(lex_quoted.l0 k a0 ([]:List Int) 1)=some (r1,r2,r3):=h;clear h;have u:=zq H;clear H;go_enter func61,ntmps61;go_wp2;go_loopg [5,6] k (fun kq v5 v6 w'=>∃ (n:List Int) (d:Int),v6 = .int .i64 d/\Zq (lex_quoted.l0 kq a0 n d=some (r1,r2,r3))/\Zq (kq<=k)/\Zq (Kd.R (Kd.int .u8) 5 w' w.heap.size (fun _=>True) v5 n)/\Zq (Below w.heap.size w w'));case atStart=>exact ⟨(([]:List Int)),(1),kaf,u,⟨qad _⟩,⟨by first|exact Kd.R_nil _ _ _ _ _|exact Kd.N_nil _ _ _ _ _|exact Kd.V_nil _ _ _ _ _|exact Kd.Q_nil _ _ _ _ _|exact Kd.S_nil _ _ _ _ _⟩,⟨kaa⟩⟩
 case round=>
  clear u;obtain ⟨n,d,rfl,HA,L,aq,HB⟩:=hrel;cases gk with
  | zero=>exact absurd HA.o (by simp [lex_quoted.l0])
  | succ z=>
   have H:=HA.o;clear HA;simp only [lex_quoted.l0] at H;by_cases c2:d<(a0.size:Int)
   ·rw [if_pos c2] at H;have bd:decide (d<(a0.size:Int))=true:=qac c2;clear c2;by_cases c3:0<=d
    ·rw [if_pos c3] at H;have b0:decide (0<=d)=true:=qac c3;clear c3;by_cases c5:(bt a0 d)=34
     ·rw [if_pos c5] at H;have bk:((bt a0 d)==34)=true:=qar.mpr c5;have bp:((bt a0 d)!=34)=false:=qaq.mpr c5;clear c5;simp only [qai,qap] at H;obtain ⟨rfl,rfl,rfl⟩:=H;have p4:0<=(d:Int):=kao;have m:d<(a0.size:Int):=kao;have J:=zcs a0 d;replace p4:=eq_true p4;replace m:=eq_true m;have b2:=zjv (P:=prog) underlying64 underlying5 underlying9 (Kd.own_of_R aq.o);obtain ⟨bw,b1,bu⟩:=Kd.R_slice aq.o;subst bu;go_wp2
      go_ret3
      exact ⟨by first|rfl|(simp [zap,zao]<;>rfl)|(simp [*,zap,zao]<;>rfl),kaa⟩
     rw [if_neg c5] at H;have bk:((bt a0 d)==34)=false:=qah.mpr c5;have bp:((bt a0 d)!=34)=true:=qbc.mpr c5;by_cases c8:(bt a0 d)=92
     ·rw [if_pos c8] at H;have bq:((bt a0 d)==92)=true:=qar.mpr c8;have br:((bt a0 d)!=92)=false:=qaq.mpr c8;clear c8;by_cases c9:(wrap64 (d+1))=(a0.size:Int)
      ·rw [if_pos c9] at H;have a7:((wrap64 (d+1))==(a0.size:Int))=true:=qar.mpr c9;have a8:((wrap64 (d+1))!=(a0.size:Int))=false:=qaq.mpr c9;clear c9;simp only [qai,qap] at H;obtain ⟨rfl,rfl,rfl⟩:=H;have p4:0<=(d:Int):=kao;have m:d<(a0.size:Int):=kao;have J:=zcs a0 d;replace p4:=eq_true p4;replace m:=eq_true m;go_wp2
       go_ret3
       exact ⟨by first|rfl|(simp [zap,zao]<;>rfl)|(simp [*,zap,zao]<;>rfl),kaa⟩
      rw [if_neg c9] at H;have a7:((wrap64 (d+1))==(a0.size:Int))=false:=qah.mpr c9;have a8:((wrap64 (d+1))!=(a0.size:Int))=true:=qbc.mpr c9;obtain ⟨l,y⟩:∃ j_:Int,(wrap64 (d+1))=j_:=⟨_,rfl⟩;replace H:(if 0<=(l) then (if (l)<(a0.size:Int) then (if (bt a0 (l))=34 then (if n.length<140737488355328 then (lex_quoted.l0 z a0 (n++[bt a0 (l)]) (wrap64 ((l)+1))) else (none)) else (if (bt a0 (l))=92 then (if n.length<140737488355328 then (lex_quoted.l0 z a0 (n++[bt a0 (l)]) (wrap64 ((l)+1))) else (none)) else (some ((⟨#[]⟩:ByteArray),0,false)))) else (none)) else (none))=some (r1,r2,r3):=(by first|(rw [y] at H;exact H)|(simp only [y] at H ⊢;exact H));(try rw [y] at a7);(try rw [y] at a8);have b3:(IntKind.i64.wrap (d+1))=l:=(zjm _).trans y;by_cases af:0<=(l)
      ·rw [if_pos af] at H;have bx:decide (0<=(l))=true:=qac af;clear af;by_cases c12:(l)<(a0.size:Int)
       ·rw [if_pos c12] at H;have bz:decide ((l)<(a0.size:Int))=true:=qac c12;clear c12;by_cases G:(bt a0 (l))=34
        ·rw [if_pos G] at H;have aX:((bt a0 (l))==34)=true:=qar.mpr G;have aY:((bt a0 (l))!=34)=false:=qaq.mpr G;clear G;by_cases a1:n.length<140737488355328
         ·rw [if_pos a1] at H;have aQ:=zq a1;clear a1;obtain ⟨aH,U⟩:∃ y_:List Int,y_=(n++[bt a0 (l)]):=⟨_,rfl⟩;replace H:(lex_quoted.l0 z a0 aH (wrap64 ((l)+1)))=some (r1,r2,r3):=(by first|(rw [U];with_reducible exact H)|(have p:=(qam _ _).symm.trans H;rw [U];with_reducible exact p)|(have p:=(qam _ _).symm.trans H;with_reducible exact p)|with_reducible exact H|(rw [U];exact H)|exact H);have aU:=zq U;clear U;have u:=zq H;clear H;have p4:0<=(d:Int):=kao;have m:d<(a0.size:Int):=kao;have J:=zcs a0 d;replace p4:=eq_true p4;replace m:=eq_true m;have D:0<=((l):Int):=kao;have E:(l)<(a0.size:Int):=kao;have aA:=zcs a0 (l);replace D:=eq_true D;replace E:=eq_true E;have aC:0<=((l):Int):=kao;have aE:(l)<(a0.size:Int):=kao;have b4:=zcs a0 (l);replace aC:=eq_true aC;replace aE:=eq_true aE;go_wp2_with (first|((with_reducible refine zas (b := .append) (xs:=#[.tmp 58,.tmp 60]) rfl ?_);at_builtin;refine Kd.R_append (Kd.int .u8) (w0:=w) w.heap.size rfl (.tmp 58) (.tmp 60) 64 5 (.int .u8 0) 1 rfl underlying64 zsk rfl kad kab u5 n (bt a0 (l)) [.int .u8 (bt a0 (l))] (fun _=>True) (fun _=>False) rfl rfl ?aP (fun _ hk=>hk.elim) ?aF ?aO ?aB ?aS ?aL ?_;(case aP=>exact rfl);(case aB=>exact kaa);(case aF=>exact (fun _ _=>trivial));(case aO=>exact kaj);(case aS=>exact (zat kaa));(case aL=>have:=aQ.o;omega);intro v109 b8 s x hg O;rw [<-aU.o] at s;have A:=zq x;have B:=zq s;clear HB;clear aq;have HB:=A;have aK:=B;clear A B;clear s x hg O))
          go_roundg z
          case measure=>have:=L.o;omega
          case rel=>exact ⟨(aH),(wrap64 ((l)+1)),(by first|rfl|(simp;done)|(simp only [<-y]<;>(first|rfl|simp))|(simp [*];done)),u,⟨by have:=L.o;omega⟩,⟨by (with_reducible repeat (first|apply Kd.R_alloc|apply Kd.R_drewN|apply Kd.R_drew));exact aK.o⟩,⟨kaa⟩⟩
         rw [if_neg a1] at H;exact absurd H (by simp)
        rw [if_neg G] at H;have aX:((bt a0 (l))==34)=false:=qah.mpr G;have aY:((bt a0 (l))!=34)=true:=qbc.mpr G;by_cases I:(bt a0 (l))=92
        ·rw [if_pos I] at H;have aZ:((bt a0 (l))==92)=true:=qar.mpr I;have ba:((bt a0 (l))!=92)=false:=qaq.mpr I;clear I;by_cases c21:n.length<140737488355328
         ·rw [if_pos c21] at H;have aR:=zq c21;clear c21;obtain ⟨aI,X⟩:∃ y_:List Int,y_=(n++[bt a0 (l)]):=⟨_,rfl⟩;replace H:(lex_quoted.l0 z a0 aI (wrap64 ((l)+1)))=some (r1,r2,r3):=(by first|(rw [X];with_reducible exact H)|(have p:=(qam _ _).symm.trans H;rw [X];with_reducible exact p)|(have p:=(qam _ _).symm.trans H;with_reducible exact p)|with_reducible exact H|(rw [X];exact H)|exact H);have aV:=zq X;clear X;have u:=zq H;clear H;have p4:0<=(d:Int):=kao;have m:d<(a0.size:Int):=kao;have J:=zcs a0 d;replace p4:=eq_true p4;replace m:=eq_true m;have D:0<=((l):Int):=kao;have E:(l)<(a0.size:Int):=kao;have aA:=zcs a0 (l);replace D:=eq_true D;replace E:=eq_true E;have Z:0<=((l):Int):=kao;have ad:(l)<(a0.size:Int):=kao;have bv:=zcs a0 (l);replace Z:=eq_true Z;replace ad:=eq_true ad;have aD:0<=((l):Int):=kao;have aG:(l)<(a0.size:Int):=kao;have b5:=zcs a0 (l);replace aD:=eq_true aD;replace aG:=eq_true aG;go_wp2_with (first|((with_reducible refine zas (b := .append) (xs:=#[.tmp 58,.tmp 60]) rfl ?_);at_builtin;refine Kd.R_append (Kd.int .u8) (w0:=w) w.heap.size rfl (.tmp 58) (.tmp 60) 64 5 (.int .u8 0) 1 rfl underlying64 zsk rfl kad kab u5 n (bt a0 (l)) [.int .u8 (bt a0 (l))] (fun _=>True) (fun _=>False) rfl rfl ?aP (fun _ hk=>hk.elim) ?aF ?aO ?aB ?aS ?aL ?_;(case aP=>exact rfl);(case aB=>exact kaa);(case aF=>exact (fun _ _=>trivial));(case aO=>exact kaj);(case aS=>exact (zat kaa));(case aL=>have:=aR.o;omega);intro b6 b9 s x hg O;rw [<-aV.o] at s;have A:=zq x;have B:=zq s;clear HB;clear aq;have HB:=A;have aM:=B;clear A B;clear s x hg O))
          go_roundg z
          case measure=>have:=L.o;omega
          case rel=>exact ⟨(aI),(wrap64 ((l)+1)),(by first|rfl|(simp;done)|(simp only [<-y]<;>(first|rfl|simp))|(simp [*];done)),u,⟨by have:=L.o;omega⟩,⟨by (with_reducible repeat (first|apply Kd.R_alloc|apply Kd.R_drewN|apply Kd.R_drew));exact aM.o⟩,⟨kaa⟩⟩
         rw [if_neg c21] at H;exact absurd H (by simp)
        rw [if_neg I] at H;have aZ:((bt a0 (l))==92)=false:=qah.mpr I;have ba:((bt a0 (l))!=92)=true:=qbc.mpr I;simp only [qai,qap] at H;obtain ⟨rfl,rfl,rfl⟩:=H;have p4:0<=(d:Int):=kao;have m:d<(a0.size:Int):=kao;have J:=zcs a0 d;replace p4:=eq_true p4;replace m:=eq_true m;have D:0<=((l):Int):=kao;have E:(l)<(a0.size:Int):=kao;have aA:=zcs a0 (l);replace D:=eq_true D;replace E:=eq_true E;have Z:0<=((l):Int):=kao;have ad:(l)<(a0.size:Int):=kao;have bv:=zcs a0 (l);replace Z:=eq_true Z;replace ad:=eq_true ad;go_wp2
        go_ret3
        exact ⟨by first|rfl|(simp [zap,zao]<;>rfl)|(simp only [<-y];first|rfl|(simp [zap,zao]<;>rfl))|(simp [*,zap,zao]<;>rfl),kaa⟩
       rw [if_neg c12] at H;exact absurd H (by simp)
      rw [if_neg af] at H;exact absurd H (by simp)
     rw [if_neg c8] at H;have bq:((bt a0 d)==92)=false:=qah.mpr c8;have br:((bt a0 d)!=92)=true:=qbc.mpr c8;by_cases M:(bt a0 d)<32
     ·rw [if_pos M] at H;have bb:decide ((bt a0 d)<32)=true:=qac M;clear M;simp only [qai,qap] at H;obtain ⟨rfl,rfl,rfl⟩:=H;have p4:0<=(d:Int):=kao;have m:d<(a0.size:Int):=kao;have J:=zcs a0 d;replace p4:=eq_true p4;replace m:=eq_true m;go_wp2
      go_ret3
      exact ⟨by first|rfl|(simp [zap,zao]<;>rfl)|(simp [*,zap,zao]<;>rfl),kaa⟩
     rw [if_neg M] at H;have bb:decide ((bt a0 d)<32)=false:=qak M;clear M;by_cases c24:(bt a0 d)>126
     ·rw [if_pos c24] at H;have bc:decide (126<(bt a0 d))=true:=qac c24;clear c24;simp only [qai,qap] at H;obtain ⟨rfl,rfl,rfl⟩:=H;have p4:0<=(d:Int):=kao;have m:d<(a0.size:Int):=kao;have J:=zcs a0 d;replace p4:=eq_true p4;replace m:=eq_true m;go_wp2
      go_ret3
      exact ⟨by first|rfl|(simp [zap,zao]<;>rfl)|(simp [*,zap,zao]<;>rfl),kaa⟩
     rw [if_neg c24] at H;have bc:decide (126<(bt a0 d))=false:=qak c24;clear c24;by_cases a6:n.length<140737488355328
     ·rw [if_pos a6] at H;have aT:=zq a6;clear a6;obtain ⟨aJ,Y⟩:∃ y_:List Int,y_=(n++[bt a0 d]):=⟨_,rfl⟩;replace H:(lex_quoted.l0 z a0 aJ (wrap64 (d+1)))=some (r1,r2,r3):=(by first|(rw [Y];with_reducible exact H)|(have p:=(qam _ _).symm.trans H;rw [Y];with_reducible exact p)|(have p:=(qam _ _).symm.trans H;with_reducible exact p)|with_reducible exact H|(rw [Y];exact H)|exact H);have aW:=zq Y;clear Y;have u:=zq H;clear H;have p4:0<=(d:Int):=kao;have m:d<(a0.size:Int):=kao;have J:=zcs a0 d;replace p4:=eq_true p4;replace m:=eq_true m;go_wp2_with (first|((with_reducible refine zas (b := .append) (xs:=#[.tmp 58,.tmp 60]) rfl ?_);at_builtin;refine Kd.R_append (Kd.int .u8) (w0:=w) w.heap.size rfl (.tmp 58) (.tmp 60) 64 5 (.int .u8 0) 1 rfl underlying64 zsk rfl kad kab u5 n (bt a0 d) [.int .u8 (bt a0 d)] (fun _=>True) (fun _=>False) rfl rfl ?aP (fun _ hk=>hk.elim) ?aF ?aO ?aB ?aS ?aL ?_;(case aP=>exact rfl);(case aB=>exact kaa);(case aF=>exact (fun _ _=>trivial));(case aO=>exact kaj);(case aS=>exact (zat kaa));(case aL=>have:=aT.o;omega);intro b7 bA s x hg O;rw [<-aW.o] at s;have A:=zq x;have B:=zq s;clear HB;clear aq;have HB:=A;have aN:=B;clear A B;clear s x hg O))
      go_roundg z
      case measure=>have:=L.o;omega
      case rel=>exact ⟨(aJ),(wrap64 (d+1)),kaf,u,⟨by have:=L.o;omega⟩,⟨by (with_reducible repeat (first|apply Kd.R_alloc|apply Kd.R_drewN|apply Kd.R_drew));exact aN.o⟩,⟨kaa⟩⟩
     rw [if_neg a6] at H;exact absurd H (by simp)
    rw [if_neg c3] at H;exact absurd H (by simp)
   rw [if_neg c2] at H;have bd:decide (d<(a0.size:Int))=false:=qak c2;clear c2;simp only [qai,qap] at H;obtain ⟨rfl,rfl,rfl⟩:=H;go_wp2
   go_ret3
   exact ⟨by first|rfl|(simp [zap,zao]<;>rfl)|(simp [*,zap,zao]<;>rfl),kaa⟩
def lex_goesOn.f (a0:Int) (a1:Int):Option (Bool):=if a0=1 then ((lex_begins.f a1).bind fun t117=>(some (t117==1))) else (if a0=2 then (some (a1 !=10)) else (if a0=3 then ((lex_isSmall.f a1).bind fun t118=>(if t118=true then (some true) else ((lex_isDigit.f a1).bind fun t119=>(if t119=true then (some true) else (if a1=95 then (some true) else (some (a1==45))))))) else (if a0=4 then ((lex_isGreat.f a1).bind fun t120=>(some t120)) else (if a0=5 then ((lex_isDigit.f a1).bind fun t121=>(if t121=true then (some true) else (if a1=46 then (some true) else (some (a1==47))))) else (some false)))))
theorem lex_goesOn.calls (a0:Int) (a1:Int) (r:Bool) (w:World) (h:lex_goesOn.f a0 a1=some r) :
  Calls prog 96 #[.int .i64 a0,.int .i32 a1] w fun e w'=>e = .returned (.bool r)/\Below w.heap.size w w':=by
 have HB:=zq (qan w.heap.size w);have H:(if a0=1 then ((lex_begins.f a1).bind fun t117=>(some (t117==1))) else (if a0=2 then (some (a1 !=10)) else (if a0=3 then ((lex_isSmall.f a1).bind fun t118=>(if t118=true then (some true) else ((lex_isDigit.f a1).bind fun t119=>(if t119=true then (some true) else (if a1=95 then (some true) else (some (a1==45))))))) else (if a0=4 then ((lex_isGreat.f a1).bind fun t120=>(some t120)) else (if a0=5 then ((lex_isDigit.f a1).bind fun t121=>(if t121=true then (some true) else (if a1=46 then (some true) else (some (a1==47))))) else (some false))))))=some r:=h;clear h;by_cases c3:a0=1
 focus
  rw [if_pos c3] at H;have O:(a0==1)=true:=qar.mpr c3;have U:(a0 !=1)=false:=qaq.mpr c3;clear c3;replace H:=qba.mp H;obtain ⟨t117,n,H⟩:=H;replace H:(some (t117==1))=some r:=H;have A:=zq n;clear n;obtain rfl:=qaa H;have a7:=trivial
 rotate_right
 focus
  rw [if_neg c3] at H;have O:(a0==1)=false:=qah.mpr c3;have U:(a0 !=1)=true:=qbc.mpr c3;by_cases c6:a0=2
  focus
   rw [if_pos c6] at H;have X:(a0==2)=true:=qar.mpr c6;have Y:(a0 !=2)=false:=qaq.mpr c6;clear c6;obtain rfl:=qaa H;have aB:=trivial
  rotate_right
  focus
   rw [if_neg c6] at H;have X:(a0==2)=false:=qah.mpr c6;have Y:(a0 !=2)=true:=qbc.mpr c6;by_cases c7:a0=3
   focus
    rw [if_pos c7] at H;have Z:(a0==3)=true:=qar.mpr c7;have ad:(a0 !=3)=false:=qaq.mpr c7;clear c7;obtain ⟨t118,A8,H⟩:=kbd H;(try dsimp only at H);by_cases c9:t118=true
    focus
     subst c9;rw [if_pos rfl] at H;obtain rfl:=qaa H;have aC:=trivial
    rotate_right
    focus
     obtain rfl:=qbf.mpr c9;rw [if_neg kft] at H;obtain ⟨t119,x,H⟩:=kbd H;(try dsimp only at H);by_cases p:t119=true
     focus
      subst p;rw [if_pos rfl] at H;obtain rfl:=qaa H;have aD:=trivial
     rotate_right
     focus
      obtain rfl:=qbf.mpr p;rw [if_neg kft] at H;by_cases c12:a1=95
      focus
       rw [if_pos c12] at H;have B:(a1==95)=true:=qar.mpr c12;have D:(a1 !=95)=false:=qaq.mpr c12;clear c12;obtain rfl:=qaa H;have aE:=trivial
      rotate_right
      focus
       rw [if_neg c12] at H;have B:(a1==95)=false:=qah.mpr c12;have D:(a1 !=95)=true:=qbc.mpr c12;obtain rfl:=qaa H;have aF:=trivial
   rotate_right
   focus
    rw [if_neg c7] at H;have Z:(a0==3)=false:=qah.mpr c7;have ad:(a0 !=3)=true:=qbc.mpr c7;by_cases b:a0=4
    focus
     rw [if_pos b] at H;have E:(a0==4)=true:=qar.mpr b;have G:(a0 !=4)=false:=qaq.mpr b;clear b;replace H:=qba.mp H;obtain ⟨t120,m,H⟩:=H;replace H:(some t120)=some r:=H;have y:=zq m;clear m;obtain rfl:=qaa H;have aG:=trivial
    rotate_right
    focus
     rw [if_neg b] at H;have E:(a0==4)=false:=qah.mpr b;have G:(a0 !=4)=true:=qbc.mpr b;by_cases d:a0=5
     focus
      rw [if_pos d] at H;have I:(a0==5)=true:=qar.mpr d;have J:(a0 !=5)=false:=qaq.mpr d;clear d;obtain ⟨t121,z,H⟩:=kbd H;(try dsimp only at H);by_cases s:t121=true
      focus
       subst s;rw [if_pos rfl] at H;obtain rfl:=qaa H;have aH:=trivial
      rotate_right
      focus
       obtain rfl:=qbf.mpr s;rw [if_neg kft] at H;by_cases k:a1=46
       focus
        rw [if_pos k] at H;have L:(a1==46)=true:=qar.mpr k;have M:(a1 !=46)=false:=qaq.mpr k;clear k;obtain rfl:=qaa H;have aI:=trivial
       rotate_right
       focus
        rw [if_neg k] at H;have L:(a1==46)=false:=qah.mpr k;have M:(a1 !=46)=true:=qbc.mpr k;obtain rfl:=qaa H;have a8:=trivial
     rotate_right
     focus
      rw [if_neg d] at H;have I:(a0==5)=false:=qah.mpr d;have J:(a0 !=5)=true:=qbc.mpr d;obtain rfl:=qaa H;have aA:=trivial
 all_goals (go_enter func96,ntmps96;go_wp2_with (first|((with_reducible refine zar (f:=60) rfl ?_);refine zbs (some 9) rfl rfl func60 kae rfl #[.int .i32 a1] rfl kac ?_;(with_reducible refine (lex_begins.calls a1 t117 _ A.o).mono ?_);rintro e a6 ⟨rfl,u⟩;refine ⟨_,rfl,?_⟩;replace HB:=zq (zau kaa u);(try clear u);(try clear af);(try clear hk);(try clear hi))|((with_reducible refine zar (f:=93) rfl ?_);refine zbs (some 18) rfl rfl func93 kae rfl #[.int .i32 a1] rfl kac ?_;(with_reducible refine (lex_isSmall.calls a1 _ _ A8.o).mono ?_);rintro e w' ⟨rfl,⟨l,rfl⟩⟩;refine ⟨_,rfl,?_⟩)|(go_at_call 95;(with_reducible refine (lex_isDigit.calls a1 _ _ x.o).mono ?_);rintro e w' ⟨rfl,⟨l,rfl⟩⟩)|((with_reducible refine zar (f:=94) rfl ?_);refine zbs (some 34) rfl rfl func94 kae rfl #[.int .i32 a1] rfl kac ?_;(with_reducible refine (lex_isGreat.calls a1 t120 _ y.o).mono ?_);rintro e w' ⟨rfl,⟨l,rfl⟩⟩;refine ⟨_,rfl,?_⟩)|((with_reducible refine zar (f:=95) rfl ?_);refine zbs (some 38) rfl rfl func95 kae rfl #[.int .i32 a1] rfl kac ?_;(with_reducible refine (lex_isDigit.calls a1 _ _ z.o).mono ?_);rintro e w' ⟨rfl,⟨l,rfl⟩⟩;refine ⟨_,rfl,?_⟩));((go_ret);(exact ⟨by first|rfl|(simp [zap,zao]<;>rfl)|(simp [*,zap,zao]<;>rfl),kaa⟩)))
end
section
attribute [local go_sem] zdv zdt zel zek zcz zcy zdu zds
def lex_run.go (a0:Int) (s:ByteArray):Nat->Nat->Option Int
 | 0,_=>none
 | n+1,pos=>if pos<s.size then (if 0<pos then (lex_goesOn.f a0 ((Utf8.decode s pos).1:Int)).bind fun b=>(if b=true then lex_run.go a0 s n (pos+(Utf8.decode s pos).2) else some (pos:Int)) else lex_run.go a0 s n (pos+(Utf8.decode s pos).2)) else some (s.size:Int)
def lex_run.f (a0:Int) (a1:ByteArray):Option Int:=if a1.size<=9223372036854775807 then lex_run.go a0 a1 (a1.size+1) 0 else none
theorem lex_run.width (s:ByteArray) (pos:Nat) (h:pos<s.size):1<=(Utf8.decode s pos).2:=by
 by_cases b:(s[pos]'h).toNat<128
 ·rw [decode_ascii s pos h b];exact qad _
 exact (decode_high s pos h kab).2
theorem lex_run.calls (a0:Int) (a1:ByteArray) (r:Int) (w:World) (h:lex_run.f a0 a1=some r) :
  Calls prog 62 #[.int .i64 a0,.string a1] w fun e w'=>e = .returned (.int .i64 r)/\Below w.heap.size w w':=by
 unfold lex_run.f at h;split at h
 ·rename_i z;have L:=zq z;clear z;have A:=zq h;clear h;go_enter func62,ntmps62;go_wp2;have y:(w.iter a1 0).heap[w.heap.size]?=some (.stringIter a1 0):=World.iter_heap w a1 0;have x:Below w.heap.size w (w.iter a1 0):=(qan _ _).alloc (qad _) _;generalize w.iter a1 0=W0 at y x;have E:=zq y;have B:=zq x;clear y x;go_loopg [5] (a1.size+1) (fun n v5 w'=>∃ (pos:Nat),Zq (lex_run.go a0 a1 n pos=some r)/\Zq (w'.heap[w.heap.size]?=some (.stringIter a1 pos))/\Zq (Below w.heap.size w w'));case atStart=>exact ⟨0,A,E,B⟩
  case round=>
   obtain ⟨pos,u,l,HB⟩:=hrel;clear A E B;cases gk with
   | zero=>exact absurd u.o (by simp [lex_run.go])
   | succ n=>
    have hg:=u.o;clear u;rw [lex_run.go] at hg;by_cases hp:pos<a1.size
    ·rw [if_pos hp] at hg;have s:=fun ty=>Lib.run_next_any_at (P:=prog) _ w.heap.size a1 pos ty l.o hp;have p:=Lib.iterAt_heap _ w.heap.size a1 pos (pos+(Utf8.decode a1 pos).2) l.o;have m:=Lib.below_iterAt HB.o (qad w.heap.size) a1 (pos+(Utf8.decode a1 pos).2);generalize (Utf8.decode a1 pos).2=wd at hg s p m;generalize (Utf8.decode a1 pos).1=c at hg s;generalize World.iterAt _ w.heap.size a1 (pos+wd)=W1 at s p m;have G:=zq p;have am:=zq m;clear p m l HB;by_cases I:0<pos
     ·rw [if_pos I] at hg;obtain ⟨b,d,J⟩:=qba.1 hg;have D:=zq d;have k:=zq J;clear hg d J;have M:(0:Int)<(pos:Int):=kab;cases b with
      | true=>
       go_wp2_with (go_at_call 96;refine (lex_goesOn.calls a0 c true _ D.o).mono ?_;rintro e O ⟨rfl,d⟩)
       go_roundg n
       case rel=>exact ⟨pos+wd,⟨(if_pos trivial).symm.trans k.o⟩,⟨zaq G.o d⟩,⟨am.o.trans (d.mono am.o.size)⟩⟩
       case measure=>omega
      | false=>
       go_wp2_with (go_at_call 96;refine (lex_goesOn.calls a0 c false _ D.o).mono ?_;rintro e O ⟨rfl,d⟩);have hr:=k.o;rw [if_neg kad] at hr;obtain rfl:=qaa hr;go_ret;exact ⟨rfl,am.o.trans (d.mono am.o.size)⟩
     rw [if_neg I] at hg;have k:=zq hg;clear hg;have M:¬(0:Int)<(pos:Int):=kab;go_wp2
     go_roundg n
     case rel=>exact ⟨pos+wd,k,G,am⟩
     case measure=>omega
    rw [if_neg hp] at hg;obtain rfl:=qaa hg;clear hg;have s:=fun ty=>Lib.run_next_end_at (P:=prog) _ w.heap.size a1 pos ty l.o hp;have z:=L.o;go_wp2;go_ret;exact ⟨rfl,HB.o⟩
 cases h
end
end Go.Proofs.YtjeekocidaogoaaGreatDoor.H
