import Derived.Test.YtollifnnpihfdaaGreatDoorG36
import Derived.Test.YtollifnnpihfdaaGreatDoorG38
set_option maxRecDepth 100000
set_option maxHeartbeats 64000000
set_option linter.all false
namespace Go.Proofs.YtollifnnpihfdaaGreatDoor
open Go.RowKit
theorem ax.lits {α:Type} (E:El α) (w:World) (cs:Array Value) (L:List α) (h:cs.toList=L.flatMap E.C) {base:Nat} (hb:base≤w.heap.size) (hl:L.length≤1000) {n:Nat} (hn:n=L.length):ax E (w.alloc (.cells cs E.e)) base (.slice (some ⟨w.heap.size,0,none⟩) n n) L:=by
 subst hn;refine ⟨E.flat L, .inr ⟨w.heap.size,L.length,cs,rfl,hb,heap_alloc_new w _,Nat.le_refl _,by unfold maxLen;omega,?_,?_⟩⟩
 · rw [← Array.length_toList,h,E.flat]
 · rw [h, ← E.flat,List.take_length]
def F8 (R:Rc) (w:World) (e:Ending) (w' :World):Prop:=∃ (A:Option Addr) (c:Nat),e= .returned (rcV R (.slice A R.ps.length c))∧ax EP w' w.heap.size (.slice A R.ps.length c) R.ps∧Below w.heap.size w w'
def yx (i:Int) (y:Itm) (r:aD) (j:Nat) (v:Value) (W:World):Prop:=match j with
 | 2=>v=prV (⟨⟨#[105,116,101,109]⟩,1,i,⟨#[]⟩⟩)
 | 5=>v=prV (txP ⟨#[110,97,109,101]⟩ r.gv)
 | 8=>v=prV (soP ⟨#[112,97,116,104]⟩ r.pa)
 | 12=>v=prV (⟨⟨#[100,101,118]⟩,1,y.dev,⟨#[]⟩⟩)
 | 16=>v=prV (⟨⟨#[105,110,111,100,101]⟩,1,y.ino,⟨#[]⟩⟩)
 | 19=>v=prV (⟨⟨#[109,111,100,101]⟩,1,r.mo,⟨#[]⟩⟩)
 | 22=>v=prV (⟨⟨#[111,117,105,100]⟩,1,y.uid,⟨#[]⟩⟩)
 | 25=>v=prV (⟨⟨#[111,103,105,100]⟩,1,y.gid,⟨#[]⟩⟩)
 | 26=>∃ g:Nat,v= .slice (some ⟨g,0,none⟩) 3 3∧AtE kD W W.heap.size (some ⟨g,0,none⟩) [⟨#[102,105,108,101]⟩,⟨#[100,105,114]⟩,⟨#[108,105,110,107]⟩]
 | 29=>v= .string (iX y.kind)
 | 30=>v=prV (txP ⟨#[107,105,110,100]⟩ (iX y.kind))
 | 31=>∃ g:Nat,v= .slice (some ⟨g,0,none⟩) 3 3∧AtE kD W W.heap.size (some ⟨g,0,none⟩) [⟨#[110,111,114,109,97,108]⟩,⟨#[99,114,101,97,116,101]⟩,⟨#[100,101,108,101,116,101]⟩]
 | 34=>v= .string (iY r.ro)
 | 35=>v=prV (txP ⟨#[114,111,108,101]⟩ (iY r.ro))
 | 38=>v=prV (⟨⟨#[112,101,114,109]⟩,1,r.pe,⟨#[]⟩⟩)
 | _=>True
theorem yx.below {i:Int} {y:Itm} {r:aD} {A B:World} (hb:Below A.heap.size A B) (j:Nat) (x:Value) (h:yx i y r j x A):yx i y r j x B:=by
 unfold yx at h ⊢;split at h <;> first | exact h | (obtain ⟨g,h1,h2⟩:=h;exact ⟨g,h1,h2.below hb⟩)
abbrev paL (i:Int) (y:Itm) (r:aD):List Pr:= [nuP ⟨#[105,116,101,109]⟩ i,txP ⟨#[110,97,109,101]⟩ r.gv,soP ⟨#[112,97,116,104]⟩ r.pa,nuP ⟨#[100,101,118]⟩ y.dev,nuP ⟨#[105,110,111,100,101]⟩ y.ino,nuP ⟨#[109,111,100,101]⟩ r.mo,nuP ⟨#[111,117,105,100]⟩ y.uid,nuP ⟨#[111,103,105,100]⟩ y.gid,txP ⟨#[107,105,110,100]⟩ (iX y.kind),txP ⟨#[114,111,108,101]⟩ (iY r.ro),nuP ⟨#[112,101,114,109]⟩ r.pe]
abbrev Js (i:Int) (y:Itm) (r:aD):Array Value:=#[.string ⟨#[105,116,101,109]⟩, .int .i64 1, .int .i64 i, .string ⟨#[]⟩, .string (txP ⟨#[110,97,109,101]⟩ r.gv).nm, .int .i64 (txP ⟨#[110,97,109,101]⟩ r.gv).kd, .int .i64 (txP ⟨#[110,97,109,101]⟩ r.gv).nu, .string (txP ⟨#[110,97,109,101]⟩ r.gv).tx, .string (soP ⟨#[112,97,116,104]⟩ r.pa).nm, .int .i64 (soP ⟨#[112,97,116,104]⟩ r.pa).kd, .int .i64 (soP ⟨#[112,97,116,104]⟩ r.pa).nu, .string (soP ⟨#[112,97,116,104]⟩ r.pa).tx, .string ⟨#[100,101,118]⟩, .int .i64 1, .int .i64 y.dev, .string ⟨#[]⟩, .string ⟨#[105,110,111,100,101]⟩, .int .i64 1, .int .i64 y.ino, .string ⟨#[]⟩, .string ⟨#[109,111,100,101]⟩, .int .i64 1, .int .i64 r.mo, .string ⟨#[]⟩, .string ⟨#[111,117,105,100]⟩, .int .i64 1, .int .i64 y.uid, .string ⟨#[]⟩, .string ⟨#[111,103,105,100]⟩, .int .i64 1, .int .i64 y.gid, .string ⟨#[]⟩, .string (txP ⟨#[107,105,110,100]⟩ (iX y.kind)).nm, .int .i64 (txP ⟨#[107,105,110,100]⟩ (iX y.kind)).kd, .int .i64 (txP ⟨#[107,105,110,100]⟩ (iX y.kind)).nu, .string (txP ⟨#[107,105,110,100]⟩ (iX y.kind)).tx, .string (txP ⟨#[114,111,108,101]⟩ (iY r.ro)).nm, .int .i64 (txP ⟨#[114,111,108,101]⟩ (iY r.ro)).kd, .int .i64 (txP ⟨#[114,111,108,101]⟩ (iY r.ro)).nu, .string (txP ⟨#[114,111,108,101]⟩ (iY r.ro)).tx, .string ⟨#[112,101,114,109]⟩, .int .i64 1, .int .i64 r.pe, .string ⟨#[]⟩]
attribute [local irreducible] az txP soP iX iY
theorem LG (i:Int) (y:Itm) (r:aD) (t:Int) (w:World):Calls Tryz.prog 57 #[.int .i64 i,jJ y r, .int .i64 t] w (F8 ⟨1302,t,0,paL i y r⟩ w):=by
 have X0:=Hd (show Blk ((w.alloc (.cells (az y r) 73)).alloc (.cells zrC 77)) w.heap.size 73 (az y r) from (Blk.new w (az y r) 73).alloc _);have hR0:Blk ((w.alloc (.cells (az y r) 73)).alloc (.cells zrC 77)) (w.heap.size+1) 77 zrC:=by
   have:=Blk.new (w.alloc (.cells (az y r) 73)) zrC 77;simpa using this
 have hB0:Below w.heap.size w ((w.alloc (.cells (az y r) 73)).alloc (.cells zrC 77)):=((Below.refl _ _).alloc (Nat.le_refl _) _).alloc (by simp) _;have HR:=Hd hR0;have HB:=Hd hB0;clear hR0 hB0;go_in;go_upto_region 1 with fail;generalize ((w.alloc (.cells (az y r) 73)).alloc (.cells zrC 77))=w0 at *;refine wp_region_held_drew (S:=(fun W' =>Blk W' w.heap.size 73 (az y r)∧Below w.heap.size w W')) (by kernel_rfl) ⟨Blk.below X0.o (Below.refl _ _).drew,HB.o.drew⟩ (fun hHeld=>?_);have HR:=Hd (Blk.below HR.o (Below.refl _ _).drew);clear X0 HB;refine tk hHeld 0 ?_ ?_ (tk hHeld 1 ?_ ?_ (tk hHeld 3 ?_ ?_ (tk hHeld 4 ?_ ?_ (tk hHeld 6 ?_ ?_ (tk hHeld 7 ?_ ?_ (tk hHeld 9 ?_ ?_ (tk hHeld 10 ?_ ?_ (tk hHeld 11 ?_ ?_ (tk hHeld 13 ?_ ?_ (tk hHeld 14 ?_ ?_ (tk hHeld 15 ?_ ?_ (tk hHeld 17 ?_ ?_ (tk hHeld 18 ?_ ?_ (tk hHeld 20 ?_ ?_ (tk hHeld 21 ?_ ?_ (tk hHeld 23 ?_ ?_ (tk hHeld 24 ?_ ?_ (tk hHeld 27 ?_ ?_ (tk hHeld 28 ?_ ?_ (tk hHeld 32 ?_ ?_ (tk hHeld 33 ?_ ?_ (tk hHeld 36 ?_ ?_ (tk hHeld 37 ?_ ?_ ?_)))))))))))))))))))))));iterate 24
   rotate_left
   · intro W hSw;have kk:=fZ.gv hSw.1;have CP:=fZ.pa hSw.1;have F6:=fZ.dev hSw.1;have Nz:=fZ.ino hSw.1;have Pz:=fZ.mo hSw.1;have PD:=fZ.uid hSw.1;have PE:=fZ.gid hSw.1;have PG:=fZ.kind hSw.1;have PH:=fZ.ro hSw.1;have PK:=fZ.pe hSw.1;go_simp;try (with_reducible rfl)
 refine gT [2,5,8,12,16,19,22,25,26,29,30,31,34,35,38] [(2,9),(5,12),(8,15),(12,19),(16,23),(19,26),(22,29),(25,32),(26,33),(29,36),(30,37),(31,38),(34,41),(35,42),(38,45)] (fun W' =>Blk W' (w.heap.size+1) 77 zrC) (yx i y r) (fun A B=>Below A.heap.size A B) 3 hHeld HR.o rfl (by kernel_rfl) (by kernel_rfl) (fun A B hb=>⟨fun h=>⟨Blk.below h.1 hb,aa h.2 hb⟩,fun h=>Blk.below h hb,fun j x h=>yx.below hb j x h⟩) ?steps ?fin;case steps=>
   refine bf.cons (i:=2) rfl (fun u W hSW hJW hpre K hK=>?_) ?_
   · dsimp only [bL,List.foldl];go_simp;go_at_call 55;refine (sZ _ _ W).mono ?_;rintro e W2 ⟨rfl,hb⟩;go_simp;exact hK.o _ _ _ (by kernel_rfl) rfl hb
   refine bf.cons (i:=5) rfl (fun u W hSW hJW hpre K hK=>?_) ?_
   · dsimp only [bL,List.foldl];go_simp;go_at_call 54;refine (tq _ _ W).mono ?_;rintro e W2 ⟨rfl,hb⟩;go_simp;exact hK.o _ _ _ (by kernel_rfl) rfl hb
   refine bf.cons (i:=8) rfl (fun u W hSW hJW hpre K hK=>?_) ?_
   · dsimp only [bL,List.foldl];go_simp;go_at_call 56;refine (tC _ _ W).mono ?_;rintro e W2 ⟨rfl,hb⟩;go_simp;exact hK.o _ _ _ (by kernel_rfl) rfl hb
   refine bf.cons (i:=12) rfl (fun u W hSW hJW hpre K hK=>?_) ?_
   · dsimp only [bL,List.foldl];go_simp;go_at_call 55;refine (sZ _ _ W).mono ?_;rintro e W2 ⟨rfl,hb⟩;go_simp;exact hK.o _ _ _ (by kernel_rfl) rfl hb
   refine bf.cons (i:=16) rfl (fun u W hSW hJW hpre K hK=>?_) ?_
   · dsimp only [bL,List.foldl];go_simp;go_at_call 55;refine (sZ _ _ W).mono ?_;rintro e W2 ⟨rfl,hb⟩;go_simp;exact hK.o _ _ _ (by kernel_rfl) rfl hb
   refine bf.cons (i:=19) rfl (fun u W hSW hJW hpre K hK=>?_) ?_
   · dsimp only [bL,List.foldl];go_simp;go_at_call 55;refine (sZ _ _ W).mono ?_;rintro e W2 ⟨rfl,hb⟩;go_simp;exact hK.o _ _ _ (by kernel_rfl) rfl hb
   refine bf.cons (i:=22) rfl (fun u W hSW hJW hpre K hK=>?_) ?_
   · dsimp only [bL,List.foldl];go_simp;go_at_call 55;refine (sZ _ _ W).mono ?_;rintro e W2 ⟨rfl,hb⟩;go_simp;exact hK.o _ _ _ (by kernel_rfl) rfl hb
   refine bf.cons (i:=25) rfl (fun u W hSW hJW hpre K hK=>?_) ?_
   · dsimp only [bL,List.foldl];go_simp;go_at_call 55;refine (sZ _ _ W).mono ?_;rintro e W2 ⟨rfl,hb⟩;go_simp;exact hK.o _ _ _ (by kernel_rfl) rfl hb
   refine bf.cons (i:=26) rfl (fun u W hSW hJW hpre K hK=>?_) ?_
   · dsimp only [bL,List.foldl];go_simp;exact hK.o (.slice (some ⟨W.heap.size,0,none⟩) 3 3) _ _ (by kernel_rfl) ⟨W.heap.size,rfl,ny kD W #[.string ⟨#[102,105,108,101]⟩, .string ⟨#[100,105,114]⟩, .string ⟨#[108,105,110,107]⟩] 9 [⟨#[102,105,108,101]⟩,⟨#[100,105,114]⟩,⟨#[108,105,110,107]⟩] rfl (by simp)⟩ ((Below.refl _ _).alloc (Nat.le_refl _) _)
   refine bf.cons (i:=29) rfl (fun u W hSW hJW hpre K hK=>?_) ?_
   · dsimp only [bL,List.foldl];obtain ⟨g,e0,h0⟩:∃ g:Nat,u 26= .slice (some ⟨g,0,none⟩) 3 3∧AtE kD W W.heap.size (some ⟨g,0,none⟩) [⟨#[102,105,108,101]⟩,⟨#[100,105,114]⟩,⟨#[108,105,110,107]⟩]:=hpre 26 rfl (by kernel_rfl);rw [← dQ e0] at hK;go_simp;go_at_call 104;refine (FV _ _ _ _ _ y.kind W h0).mono ?_;rintro e W2 ⟨rfl,rfl⟩;go_simp;exact hK.o (.string (iX y.kind)) _ _ (by kernel_rfl) rfl (Below.refl _ _)
   refine bf.cons (i:=30) rfl (fun u W hSW hJW hpre K hK=>?_) ?_
   · dsimp only [bL,List.foldl];have e0:u 29= .string (iX y.kind):=hpre 29 rfl (by kernel_rfl);rw [← dQ e0] at hK;go_simp;go_at_call 54;refine (tq _ _ W).mono ?_;rintro e W2 ⟨rfl,hb⟩;go_simp;exact hK.o _ _ _ (by kernel_rfl) rfl hb
   refine bf.cons (i:=31) rfl (fun u W hSW hJW hpre K hK=>?_) ?_
   · dsimp only [bL,List.foldl];go_simp;exact hK.o (.slice (some ⟨W.heap.size,0,none⟩) 3 3) _ _ (by kernel_rfl) ⟨W.heap.size,rfl,ny kD W #[.string ⟨#[110,111,114,109,97,108]⟩, .string ⟨#[99,114,101,97,116,101]⟩, .string ⟨#[100,101,108,101,116,101]⟩] 9 [⟨#[110,111,114,109,97,108]⟩,⟨#[99,114,101,97,116,101]⟩,⟨#[100,101,108,101,116,101]⟩] rfl (by simp)⟩ ((Below.refl _ _).alloc (Nat.le_refl _) _)
   refine bf.cons (i:=34) rfl (fun u W hSW hJW hpre K hK=>?_) ?_
   · dsimp only [bL,List.foldl];obtain ⟨g,e0,h0⟩:∃ g:Nat,u 31= .slice (some ⟨g,0,none⟩) 3 3∧AtE kD W W.heap.size (some ⟨g,0,none⟩) [⟨#[110,111,114,109,97,108]⟩,⟨#[99,114,101,97,116,101]⟩,⟨#[100,101,108,101,116,101]⟩]:=hpre 31 rfl (by kernel_rfl);rw [← dQ e0] at hK;go_simp;go_at_call 104;refine (FV _ _ _ _ _ r.ro W h0).mono ?_;rintro e W2 ⟨rfl,rfl⟩;go_simp;exact hK.o (.string (iY r.ro)) _ _ (by kernel_rfl) rfl (Below.refl _ _)
   refine bf.cons (i:=35) rfl (fun u W hSW hJW hpre K hK=>?_) ?_
   · dsimp only [bL,List.foldl];have e0:u 34= .string (iY r.ro):=hpre 34 rfl (by kernel_rfl);rw [← dQ e0] at hK;go_simp;go_at_call 54;refine (tq _ _ W).mono ?_;rintro e W2 ⟨rfl,hb⟩;go_simp;exact hK.o _ _ _ (by kernel_rfl) rfl hb
   refine bf.cons (i:=38) rfl (fun u W hSW hJW hpre K hK=>?_) ?_
   · dsimp only [bL,List.foldl];go_simp;go_at_call 55;refine (sZ _ _ W).mono ?_;rintro e W2 ⟨rfl,hb⟩;go_simp;exact hK.o _ _ _ (by kernel_rfl) rfl hb
   exact bf.nil
 case fin=>
 intro u W hHeld hJ hV;dsimp only [bL,List.foldl];have e2:u 2=prV (⟨⟨#[105,116,101,109]⟩,1,i,⟨#[]⟩⟩):=hV 2 rfl;have e5:u 5=prV (txP ⟨#[110,97,109,101]⟩ r.gv):=hV 5 rfl;have e8:u 8=prV (soP ⟨#[112,97,116,104]⟩ r.pa):=hV 8 rfl;have e12:u 12=prV (⟨⟨#[100,101,118]⟩,1,y.dev,⟨#[]⟩⟩):=hV 12 rfl;have e16:u 16=prV (⟨⟨#[105,110,111,100,101]⟩,1,y.ino,⟨#[]⟩⟩):=hV 16 rfl;have e19:u 19=prV (⟨⟨#[109,111,100,101]⟩,1,r.mo,⟨#[]⟩⟩):=hV 19 rfl;have e22:u 22=prV (⟨⟨#[111,117,105,100]⟩,1,y.uid,⟨#[]⟩⟩):=hV 22 rfl;have e25:u 25=prV (⟨⟨#[111,103,105,100]⟩,1,y.gid,⟨#[]⟩⟩):=hV 25 rfl;have e30:u 30=prV (txP ⟨#[107,105,110,100]⟩ (iX y.kind)):=hV 30 rfl;have e35:u 35=prV (txP ⟨#[114,111,108,101]⟩ (iY r.ro)):=hV 35 rfl;have e38:u 38=prV (⟨⟨#[112,101,114,109]⟩,1,r.pe,⟨#[]⟩⟩):=hV 38 rfl;simp only [e2,e5,e8,e12,e16,e19,e22,e25,e30,e35,e38];clear e2 e5 e8 e12 e16 e19 e22 e25 e30 e35 e38 hV;have OW:=Hd (show ax EP (W.alloc (.cells (Js i y r) 79)) w.heap.size (.slice (some ⟨W.heap.size,0,none⟩) 11 11) (paL i y r) from ax.lits EP W (Js i y r) (paL i y r) rfl (base:=w.heap.size) hHeld.2.size (by show 11≤1000;omega) (n:=11) rfl);have HR1:=Hd (Blk.alloc hJ (.cells (Js i y r) 79));have HB1:=Hd (hHeld.2.alloc hHeld.2.size (.cells (Js i y r) 79));have hlt:=hJ.lt;refine rdy1 39 (fun K hK=>?_);have hh:=And.intro (Blk.alloc hHeld.1 (.cells (Js i y r) 79)) HB1.o;go_simp;refine hK.o _ _ hh (fun hHeld=>?_);clear hK K;clear hh;have g1:(Value.slice (some ⟨W.heap.size,0,none⟩) 11 11).ownBlock≠some (w.heap.size+1):=fun e=>by have e:=Option.some.inj e;simp only at e;omega
 generalize hW1:W.alloc (.cells (Js i y r) 79)=W1 at *;clear hW1 hJ;refine tk hHeld 40 ?_ ?_ ?_;rotate_left
 · intro W hSw;go_simp;try (with_reducible rfl)
 have g0:w.heap.size≠w.heap.size+1:=by omega
 have g2:w.heap.size≤w.heap.size+1:=by omega
 refine rdy1 41 (fun K hK=>?_);have c0:W1.cell? ⟨w.heap.size+1,0,none⟩=some (.int .i64 0):=HR1.o.cell 0;have c1:W1.cell? ⟨w.heap.size+1,1,none⟩=some (.int .i64 0):=HR1.o.cell 1;have c2:W1.cell? ⟨w.heap.size+1,2,none⟩=some (.int .i64 0):=HR1.o.cell 2;have c3:W1.cell? ⟨w.heap.size+1,3,none⟩=some (.slice none 0 0):=HR1.o.cell 3;have f0:W1.frozen? ⟨w.heap.size+1,0,none⟩=false:=HR1.o.free 0;have f1:W1.frozen? ⟨w.heap.size+1,1,none⟩=false:=HR1.o.free 1;have f2:W1.frozen? ⟨w.heap.size+1,2,none⟩=false:=HR1.o.free 2;have f3:W1.frozen? ⟨w.heap.size+1,3,none⟩=false:=HR1.o.free 3;have HRz:=Hd (((((HR1.o).put 0 (.int .i64 1302)).put 1 (.int .i64 t)).put 2 (.int .i64 0)).put 3 (.slice (some ⟨W.heap.size,0,none⟩) 11 11));have OWz:=Hd ((ax.bD (ax.bD (ax.bD (ax.bD OW.o (i:=0) g1 (.int .i64 1302)) (i:=1) g1 (.int .i64 t)) (i:=2) g1 (.int .i64 0)) (i:=3) g1 (.slice (some ⟨W.heap.size,0,none⟩) 11 11)));have HBz:=Hd ((Below.setCell (p:=⟨w.heap.size+1,3,none⟩) (Below.setCell (p:=⟨w.heap.size+1,2,none⟩) (Below.setCell (p:=⟨w.heap.size+1,1,none⟩) (Below.setCell (p:=⟨w.heap.size+1,0,none⟩) HB1.o g2 (.int .i64 1302)) g2 (.int .i64 t)) g2 (.int .i64 0)) g2 (.slice (some ⟨W.heap.size,0,none⟩) 11 11)));have hh:=And.intro (Blk.af (p:=⟨w.heap.size+1,3,none⟩) (Blk.af (p:=⟨w.heap.size+1,2,none⟩) (Blk.af (p:=⟨w.heap.size+1,1,none⟩) (Blk.af (p:=⟨w.heap.size+1,0,none⟩) hHeld.1 (.int .i64 1302) g0) (.int .i64 t) g0) (.int .i64 0) g0) (.slice (some ⟨W.heap.size,0,none⟩) 11 11) g0) HBz.o;go_simp;refine hK.o _ _ hh (fun hHeld=>?_);clear hK K;clear hh c0 c1 c2 c3 f0 f1 f2 f3;refine wpAnyH_done (by kernel_rfl) ?_ _;go_wp2_with fail;refine bodyPost_ret (qP (n:=6) (fn:=Tryz.f57) rfl _ _ (w.heap.size+1) ⟨1302,t,0,paL i y r⟩ (.slice (some ⟨W.heap.size,0,none⟩) 11 11) rfl HRz.o) rfl ?_;exact ⟨_,11,rfl,OWz.o,HBz.o⟩
end Go.Proofs.YtollifnnpihfdaaGreatDoor
