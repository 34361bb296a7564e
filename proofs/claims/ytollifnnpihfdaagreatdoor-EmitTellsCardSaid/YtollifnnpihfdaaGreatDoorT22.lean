import Derived.Test.YtollifnnpihfdaaGreatDoorT19
import Derived.Test.YtollifnnpihfdaaGreatDoorT21
set_option maxRecDepth 100000
set_option maxHeartbeats 64000000
set_option linter.all false
namespace Go.Proofs.YtollifnnpihfdaaGreatDoor
open Go.RowKit
structure Pr where
 nm:ByteArray
 kd:Int
 nu:Int
 tx:ByteArray
structure Rc where
 ty:Int
 ti:Int
 se:Int
 ps:List Pr
abbrev prV (p:Pr):Value:=I9 p.nm p.kd p.nu p.tx
abbrev rcC (r:Rc) (v:Value):Array Value:=#[.int .i64 r.ty, .int .i64 r.ti, .int .i64 r.se,v]
theorem Tryz.Ew:(Tryz.prog.info? 79).map (fun i=>(i.zero,i.size,i.bytes))=some (some (.agg #[.string ⟨#[]⟩, .int .i64 0, .int .i64 0, .string ⟨#[]⟩]),4,48):=by kernel_rfl
theorem Tryz.Ex:(Tryz.prog.info? 77).map (fun i=>(i.zero,i.size,i.bytes))=some (some (.agg #[.int .i64 0, .int .i64 0, .int .i64 0, .slice none 0 0]),4,48):=by kernel_rfl
def EP:El Pr where
 C p:= [.string p.nm, .int .i64 p.kd, .int .i64 p.nu, .string p.tx]
 e:=79
 sl:=75
 sz:=4
 bs:=48
 len _:=rfl
 one p u hu:=by simp at hu;rcases hu with rfl | rfl | rfl | rfl <;> rfl
 pos:=by omega
 small:=by omega
 hu:=Tryz.underlying75
 info:=by
  obtain ⟨i0,h1,h2,h3,h4⟩:=info_parts Tryz.Ew;exact ⟨i0,_,h1,h2,h3,h4,rfl⟩
structure Rm where
 r:Rc
 A:Option Addr
 c:Nat
abbrev Rm.sl (x:Rm):Value:= .slice x.A x.r.ps.length x.c
def ER:El Rm where
 C x:= [.int .i64 x.r.ty, .int .i64 x.r.ti, .int .i64 x.r.se, .slice x.A x.r.ps.length x.c]
 e:=77
 sl:=65
 sz:=4
 bs:=48
 len _:=rfl
 one x u hu:=by simp at hu;rcases hu with rfl | rfl | rfl | rfl <;> rfl
 pos:=by omega
 small:=by omega
 hu:=Tryz.underlying65
 info:=by
  obtain ⟨i0,h1,h2,h3,h4⟩:=info_parts Tryz.Ex;exact ⟨i0,_,h1,h2,h3,h4,rfl⟩
theorem xQ {w:World} {a:Addr} {p:Pr} (h:∀ j,j < 4→w.cell? (a.add j)=(EP.C p)[j]?):
  w.cell? a=some (.string p.nm)∧w.cell? ⟨a.block,a.off+1,none⟩=some (.int .i64 p.kd)∧w.cell? ⟨a.block,a.off+2,none⟩=some (.int .i64 p.nu)∧w.cell? ⟨a.block,a.off+3,none⟩=some (.string p.tx):=
 ⟨h 0 (by omega),h 1 (by omega),h 2 (by omega),h 3 (by omega)⟩
theorem qD {w:World} {a:Addr} {x:Rm} (h:∀ j,j < 4→w.cell? (a.add j)=(ER.C x)[j]?):
  w.cell? a=some (.int .i64 x.r.ty)∧w.cell? ⟨a.block,a.off+1,none⟩=some (.int .i64 x.r.ti)∧w.cell? ⟨a.block,a.off+2,none⟩=some (.int .i64 x.r.se)∧w.cell? ⟨a.block,a.off+3,none⟩=some (.slice x.A x.r.ps.length x.c):=
 ⟨h 0 (by omega),h 1 (by omega),h 2 (by omega),h 3 (by omega)⟩
theorem uF (w:World):ay EP (w.alloc (.cells #[] 79)) w.heap.size (.slice (some ⟨w.heap.size,0,none⟩) 0 0) []:=
 ⟨rfl, .inr ⟨w.heap.size,0,#[],rfl,Nat.le_refl _,heap_alloc_new w _,Nat.le_refl _,by unfold maxLen;omega,rfl,rfl⟩⟩
theorem Ey (ad:Addr) (n c:Nat) (w:World):(binOp .eql 75 (.slice (some ad) n c) (.slice none 0 0)).run Tryz.prog w= .ok (.bool false) w:=by show _=_;kernel_rfl
theorem Bp (n c:Nat) (w:World):(binOp .eql 75 (.slice none n c) (.slice none 0 0)).run Tryz.prog w= .ok (.bool true) w:=by show _=_;kernel_rfl
def uG (n:Nat) (ps:List Pr) (w:World) (e:Ending) (w' :World):Prop:=∃ (A:Option Addr) (c:Nat),e= .returned (.slice A n c)∧ay EP w' w.heap.size (.slice A n c) ps∧Below w.heap.size w w'
theorem uH {w w' :World} {o:Obj} (h:(w.alloc o).grownBy w' (Value.slice (some ⟨w.heap.size,0,none⟩) 0 0).ownBlock):Below w.heap.size w w' :=
 ((Below.refl w.heap.size w).alloc (Nat.le_refl _) o).trans ⟨h.os,h.tape,h.output,h.size,fun i hi=>h.block i (by simp;omega) (fun e=>by injection e with e;simp at e;omega)⟩
theorem zI (A:Option Addr) (n c:Nat) (ps:List Pr) (hn:n=ps.length) (hl:n≤1000) (w:World) (h:AtE EP w w.heap.size A ps):
   Calls Tryz.prog 66 #[.slice A n c] w (uG n ps w):=by
 subst hn;rcases A with _ | ad
 · have hM:ps= []:=by
    cases ps with
    | nil=>rfl
    | cons s r=>obtain ⟨ad,e,_⟩:=h 0 (by simp);cases e
   subst hM;clear h hl;have hq:=Bp 0 c;go_in;go_wp2_with fail;go_ret;exact ⟨none,0,rfl,ay.nil _ _,Below.refl _ _⟩
 · have HB:=Hd (show Below w.heap.size w (w.alloc (.cells #[] 79)) from (Below.refl _ _).alloc (Nat.le_refl _) _);have HA:=Hd (h.below HB.o);clear h;have hq:=Ey ad ps.length c;go_in;go_wp2_with (refine ak EP rfl (.tmp 5) (.tmp 6) rfl w.heap.size (.slice (some ⟨w.heap.size,0,none⟩) 0 0) [] rfl (uF w) _ (some ad) ps.length c ps rfl rfl HA.o (by simp;omega) (by simp) ?_;intro v6 w6 ho6 hg6 jf);obtain ⟨A',c',e6,_⟩:=ay.at (show ay EP w6 w.heap.size v6 ps from ho6);subst e6;go_ret;exact ⟨A',c',rfl,ho6,uH hg6⟩
abbrev prA (p:Pr):Array Value:=#[.string p.nm, .int .i64 p.kd, .int .i64 p.nu, .string p.tx]
theorem Ez (p:Pr):(prA p).all (·.oneCell')=true:=by simp [Value.oneCell']
theorem Ja (p:Pr):(Tryz.prog.info? 79).map (·.size)=some (prA p).size:=by show _=some 4;kernel_rfl
theorem kD {fn:Func} (h:fn.results=#[.cell 4 79]) (tmps:Array Value) (w:World) (g:Nat) (p:Pr) (hp:tmps.getD 4 undef= .pointer (some ⟨g,0,none⟩)) (hg:Blk w g 79 (prA p)):
  (results fn tmps).run Tryz.prog w= .ok (prV p) w:=
 results_cell_row h tmps w g _ (prA p) (0,0) _ hp hg Tryz.underlying79 rfl (by show _=some 4;kernel_rfl)
theorem eB (s:ByteArray) (n:Int) (w:World):Calls Tryz.prog 48 #[.string s, .int .i64 n] w fun e w' =>e= .returned (prV ⟨s,1,n,⟨#[]⟩⟩)∧Below w.heap.size w w' :=by
 go_in;go_wp2_with fail;refine bodyPost_ret (kD (fn:=Tryz.f48) rfl _ _ w.heap.size ⟨s,1,n,⟨#[]⟩⟩ rfl (Blk.new w _ _)) rfl ?_;exact ⟨rfl,(Below.refl _ _).alloc (Nat.le_refl _) _⟩
theorem EA (s t:ByteArray) (ht:t.size≤640) (w:World):Calls Tryz.prog 47 #[.string s, .string t] w fun e w' =>e= .returned (prV ⟨s,2,0,t⟩)∧Below w.heap.size w w' :=by
 have h1:¬ (640:Int) < (t.size:Int):=by omega
 go_in;go_wp2_with fail;refine bodyPost_ret (kD (fn:=Tryz.f47) rfl _ _ w.heap.size ⟨s,2,0,t⟩ rfl (Blk.new w _ _)) rfl ?_;exact ⟨rfl,(Below.refl _ _).alloc (Nat.le_refl _) _⟩
theorem EB (s:ByteArray) (w:World):Calls Tryz.prog 50 #[.string s, .string ⟨#[]⟩] w fun e w' =>e= .returned (prV ⟨s,3,0,⟨#[]⟩⟩)∧Below w.heap.size w w' :=by
 go_in;go_wp2_with fail;refine bodyPost_ret (kD (fn:=Tryz.f50) rfl _ _ w.heap.size ⟨s,3,0,⟨#[]⟩⟩ rfl (Blk.new w _ _)) rfl ?_;exact ⟨rfl,(Below.refl _ _).alloc (Nat.le_refl _) _⟩
theorem qF {P:Program} {w:World} {a:Addr} {ty:TypeId} {cs:Array Value} {d:TypeDesc} (h:∀ j v,cs.toList[j]? =some v→w.cell? (a.add j)=some v)
  (hu:P.underlying ty=some d) (hd:(match d with | .struct _ | .array _ _=>true | _=>false)=true) (hi:(P.info? ty).map (·.size)=some cs.size):
  (loadVar ty a).run P w= .ok (.agg cs) w:=by
 have hl:(loadCells a cs.toList.length).run P w= .ok cs.toList.toArray w:=run_loadCells_list (P:=P) w a cs.toList h;cases hq:P.info? ty with
 | none=>simp [hq] at hi
 | some i=>
  have hs:i.size=cs.size:=by simpa [hq] using hi
  have hagg:(isAgg ty).run P w= .ok true w:=by
   unfold isAgg;rw [Sem.run_bind,run_underlying hu w];cases d <;> simp_all
  simp only [Array.length_toList,Array.toArray_toList] at hl;simp [loadVar,Sem.run_bind,hagg,sizeOf,typeInfo,hq,hs,hl]
theorem lv3 (a:Addr) (w:World):(loadVar 3 a).run Tryz.prog w=(load a).run Tryz.prog w:=by
 unfold loadVar;simp [go_sem]
theorem Df (a:Addr) (w:World):(loadVar 65 a).run Tryz.prog w=(load a).run Tryz.prog w:=by
 unfold loadVar;simp [go_sem]
theorem Dg (a:Addr) (w:World):(loadVar 38 a).run Tryz.prog w=(load a).run Tryz.prog w:=by
 unfold loadVar;simp [go_sem]
theorem Hm (g o j:Nat):(⟨g,o,none⟩:Addr).add j=⟨g,o+j,none⟩:=by
 unfold Addr.add;split
 · subst_vars;rfl
 · rfl
attribute [-go_sem] loadVar
attribute [local go_sem] lv3 Df Dg
end Go.Proofs.YtollifnnpihfdaaGreatDoor
namespace Go.Proofs.YtollifnnpihfdaaGreatDoor
open Go.RowKit
theorem fI {P:Program} {ops:Array Oper} {o:Oper} {a:Act} {w:World} {K:Act→World→Prop} {Q:Exit→Act→World→Prop} {F:Prop} (hgd:o.guard=none) (t:TypeId) (parts:Array (Nat×Operand)) (ho:o.op= .build t parts)
  (cells:Array Value) (hf:P.built t (parts.map fun (i,x)=>(i,a.eval x)).toList=some cells) (h:K (a.put o.dst (.agg cells)) w):
  if Region.wanted o (yielded ops a.tmps)=true then Oper.wp P o a w K Q else F:=by
 have hw:Region.wanted o (yielded ops a.tmps)=true:=by simp [Region.wanted,hgd]
 rw [if_pos hw];exact wp_build t parts ho (by rw [hf];rfl) (by rw [hf];exact h)
theorem ag {P:Program} {ops:Array Oper} {o:Oper} {a:Act} {w:World} {K:Act→World→Prop} {Q:Exit→Act→World→Prop} {F:Prop} (hgd:o.guard=none) (ty:TypeId) (x y:Operand) (ho:o.op= .store ty x y)
  {g:Nat} {t:TypeId} {old:Array Value} (hg:Blk w g t old) (cells:Array Value) (hx:a.eval x= .pointer (some ⟨g,0,none⟩)) (hy:a.eval y= .agg cells)
  (hi:(P.info? ty).map (·.size)=some cells.size) (hold:old.size=cells.size) (h1:cells.all (·.oneCell')=true) (h:K (a.put o.dst undef) (w.setRow g cells)):
  if Region.wanted o (yielded ops a.tmps)=true then Oper.wp P o a w K Q else F:=by
 have hw:Region.wanted o (yielded ops a.tmps)=true:=by simp [Region.wanted,hgd]
 rw [if_pos hw];exact wp_store_row ty x y ho g cells hx hy t old hg hi hold h1 h
def bY (w:World) (B:Nat) (A:Option Addr) (L:List (Itm×bB)):Prop:=∀ k (hk:k < L.length),∃ ad:Addr,A=some ad∧ad.block < B∧∀ j,j < 13→w.cell? ((ad.add (k * 13)).add j)=(bf (L[k]'hk).1 (L[k]'hk).2)[j]?
theorem add_block (a:Addr) (n:Nat):(a.add n).block=a.block:=by unfold Addr.add;split <;> rfl
theorem bY.keep {w w' :World} {B B' :Nat} {A:Option Addr} {L:List (Itm×bB)} (h:bY w B A L) (hb:Below B' w w') (hB:B≤B'):bY w' B A L:=fun k hk=>by
 obtain ⟨ad,e,hl,hc⟩:=h k hk;exact ⟨ad,e,hl,fun j hj=>(hb.cell (by rw [add_block,add_block];omega)).trans (hc j hj)⟩
theorem bY.more {w:World} {B B' :Nat} {A:Option Addr} {L:List (Itm×bB)} (h:bY w B A L) (hB:B≤B'):bY w B' A L:=fun k hk=>by
 obtain ⟨ad,e,hl,hc⟩:=h k hk;exact ⟨ad,e,by omega,hc⟩
theorem bY.nil {w:World} {B:Nat} {A:Option Addr} :bY w B A []:=fun k hk=>by simp at hk
attribute [local irreducible] gB nZ uN ic uO
end Go.Proofs.YtollifnnpihfdaaGreatDoor
namespace Go.Proofs.YtollifnnpihfdaaGreatDoor
open Go.RowKit
abbrev kE:Array Value:=#[.string ⟨#[]⟩, .string ⟨#[]⟩, .int .i64 0, .int .i64 0, .string ⟨#[]⟩, .int .i64 0, .int .i64 0, .int .i64 0, .int .i64 0, .int .i64 0, .int .i64 0, .int .i64 0, .int .i64 0]
theorem xU (i:Itm) (r:bB):kE.size=(bf i r).size:=rfl
theorem j4 (i:Itm) (r:bB):(bf i r).all (·.oneCell')=true:=by simp [bf,Value.oneCell']
section
variable {w wr w' :World} {base g gc:Nat} {b b' :Int} {i:Itm} {r:bB}
end
structure J0 (w wr:World) (base g:Nat) (b:Int):Prop where
 only:w.grownBy wr (some g)
 src:aY wr base g b
 rb:Blk wr w.heap.size 73 kE
 h3:g < w.heap.size
 h4:base≤w.heap.size
attribute [local irreducible] bf
end Go.Proofs.YtollifnnpihfdaaGreatDoor
namespace Go.Proofs.YtollifnnpihfdaaGreatDoor
open Go.RowKit
structure Fo where
 dd:Int
 di:Int
 nm:ByteArray
 fd:Int
 fi:Int
 ex:Bool
 sl:Bool
 pa:ByteArray
abbrev foC (x:Fo):Array Value:=#[.int .i64 x.dd, .int .i64 x.di, .string x.nm, .int .i64 x.fd, .int .i64 x.fi, .bool x.ex, .bool x.sl, .string x.pa]
def zFo:Fo:=⟨0,0,⟨#[]⟩,0,0,false,false,⟨#[]⟩⟩
theorem dx (x:Fo):(Tryz.prog.info? 223).map (·.size)=some (foC x).size:=by show _=some 8;kernel_rfl
theorem bI (x:Fo):(foC x).all (·.oneCell')=true:=by simp [Value.oneCell']
theorem dL {fn:Func} {i j:Nat} (h:fn.results=#[.cell i 223, .tmp j]) (tmps:Array Value) (w:World) (g:Nat) (x:Fo) (hp:tmps.getD i undef= .pointer (some ⟨g,0,none⟩)) (hg:Blk w g 223 (foC x)):
  (results fn tmps).run Tryz.prog w= .ok (.tuple #[.agg (foC x),tmps.getD j undef]) w:=by
 have hp' :tmps[i]?.getD undef= .pointer (some ⟨g,0,none⟩):=by simpa using hp
 simp [results,h,hp',asAddr,run_loadVar_row w g 223 223 (foC x) (0,0) _ hg Tryz.underlying223 rfl (dx x)]
def pK:El ByteArray where
 C s:= [.string s]
 e:=9
 sl:=49
 sz:=1
 bs:=16
 len _:=rfl
 one x u hu:=by simp at hu;rw [hu];rfl
 pos:=by omega
 small:=by omega
 hu:=Tryz.underlying49
 info:=by
  obtain ⟨i0,h1,h2,h3,h4⟩:=info_parts Tryz.EH;exact ⟨i0,_,h1,h2,h3,h4,rfl⟩
theorem mR {w:World} {base:Nat} {v:Value} {L:List ByteArray} (h:bH w base v L):ay pK w base v L:=by
 have e:∀ M:List ByteArray,M.flatMap pK.C=M.map Value.string:=fun M=>by
  induction M with
  | nil=>rfl
  | cons a r ih=>rw [List.flatMap_cons,List.map_cons,ih];rfl
 unfold ay;unfold bH at h;rw [e];exact h
theorem mU {w:World} {a:Addr} {s:ByteArray} (h:∀ j,j < 1→w.cell? (a.add j)=(pK.C s)[j]?):w.cell? a=some (.string s):=h 0 (by omega)
structure PiF (wr:World) (gd go:Nat) (A:Option Addr) (c:Nat) (L:List ByteArray):Prop where
 at_:AtE pK wr wr.heap.size A L
 far:∀ ad,A=some ad→ad.block≠gd∧ad.block≠go
 cap:L.length≤c
 siz:∀ x∈L,x.size≤128
theorem PiF.below {wr w' :World} {gd go c:Nat} {A:Option Addr} {L:List ByteArray} (h:PiF wr gd go A c L) (hb:Below wr.heap.size wr w'):PiF w' gd go A c L:=⟨h.at_.below hb,h.far,h.cap,h.siz⟩
theorem PiF.row {wr:World} {gd go c k:Nat} {A:Option Addr} {L:List ByteArray} (h:PiF wr gd go A c L) (hk:k=gd∨k=go) (cs:Array Value):PiF (wr.setRow k cs) gd go A c L:=by
 refine ⟨fun q hq=>?_,h.far,h.cap,h.siz⟩;obtain ⟨ad,e,hl,hc⟩:=h.at_ q hq;refine ⟨ad,e,by rw [setRow_size];exact hl,fun j hj=>?_⟩;rw [← hc j hj];refine World.cell?_of_block (setRow_other wr k _ cs ?_);rw [ax,ax];have:=h.far ad e;rcases hk with rfl | rfl
 · exact this.1
 · exact this.2
theorem PiF.nil (wr:World) (gd go c:Nat) (A:Option Addr) (h:∀ ad,A=some ad→ad.block≠gd∧ad.block≠go):PiF wr gd go A c []:=⟨AtE.nil,h,Nat.zero_le _,fun x hx=>by cases hx⟩
theorem PiF.tail {wr:World} {gd go c:Nat} {a:Addr} {x:ByteArray} {L:List ByteArray} (h:PiF wr gd go (some a) c (x :: L)):PiF wr gd go (some (a.add 1)) (c - 1) L:=by
 refine ⟨fun q hq=>?_,fun ad e=>?_,by have:=h.cap;rw [List.length_cons] at this;omega,fun y hy=>h.siz y (List.mem_cons_of_mem _ hy)⟩
 · obtain ⟨ad,e,hl,hc⟩:=h.at_ (q+1) (by simpa using hq);injection e with e;subst e;refine ⟨a.add 1,rfl,by rw [ax];exact hl,fun j hj=>?_⟩;have:=hc j hj;rw [Addr.add_add] at this ⊢;rw [Addr.add_add];have e2:1+(q * pK.sz+j)=(q+1) * pK.sz+j:=(by show 1+(q * 1+j)=(q+1) * 1+j;omega);rw [e2];exact this
 · injection e with e;subst e;rw [ax];exact h.far a rfl
theorem PiF.own {wr:World} {base gd go c n:Nat} {A:Option Addr} {L:List ByteArray} (h:ay pK wr base (.slice A n c) L) (hb:∀ q,(Value.slice A n c).ownBlock=some q→q≠gd∧q≠go) (hs:∀ x∈L,x.size≤128):PiF wr gd go A c L∧n=L.length:=by
 rcases Joins.ownsRow_forms h with ⟨e,e0⟩ | ⟨g,cap,e⟩
 · injection e with e1 e2 e3;have:L= []:=List.eq_nil_of_length_eq_zero e0;subst this;subst e1;exact ⟨PiF.nil _ _ _ _ _ (fun _ e=>by cases e),e2⟩
 · injection e with e1 e2 e3;subst e1;refine ⟨⟨aR h,fun ad e=>?_,?_,hs⟩,e2⟩
   · injection e with e;subst e;exact hb g rfl
   · rcases h.2 with ⟨e,_⟩ | ⟨g1,c1,J6,e,_,_,h2,_⟩
     · cases e
     · injection e with _ _ e;subst e;exact h2
structure FdF (w wr:World) (A:Option Addr) (n c:Nat) (ds:List Dm) (Am:Option Addr) (nm cm:Nat) (ms:List Mt) (d i:Int):Prop where
 f:SrF w wr A n c ds Am nm cm ms d i
 R:Blk wr (w.heap.size+1+1) 223 (foC zFo)
section
variable {w wr w' :World} {A Am:Option Addr} {n c nm cm gd go:Nat} {ds:List Dm} {ms:List Mt} {d i:Int}
theorem FdF.grow (h:FdF w wr A n c ds Am nm cm ms d i) (hb:Below wr.heap.size wr w'):FdF w w' A n c ds Am nm cm ms d i:=⟨h.f.grow hb,h.R.below hb⟩
theorem FdF.alloc (h:FdF w wr A n c ds Am nm cm ms d i) (o:Obj):FdF w (wr.alloc o) A n c ds Am nm cm ms d i:=h.grow ((Below.refl _ _).alloc (Nat.le_refl _) _)
theorem FdF.row (h:FdF w wr A n c ds Am nm cm ms d i) {k:Nat} (hk:w.heap.size+1+1 < k) (cs:Array Value):FdF w (wr.setRow k cs) A n c ds Am nm cm ms d i:=by
 have hgx:=aB wr k cs;have hb:Below (w.heap.size+1+1+1) wr (wr.setRow k cs):=(Below.refl _ wr).grown hgx (by have:=h.R.lt;omega) (fun q e=>by injection e with e;omega);exact ⟨⟨aj h.f.low (by omega) cs,h.f.src.keep hb (by omega),h.f.mts.keep hb (by omega),h.f.V.keep hb (by omega),h.f.U.keep hb (by omega)⟩,h.R.keep hb (by omega)⟩
def FoP (w:World) (e:Ending) (w' :World):Prop:=∃ (x:Fo) (k:Int),e= .returned (.tuple #[.agg (foC x), .int .i64 k])∧x.nm.size≤12∧x.pa.size≤640∧Below w.heap.size w w'
theorem FdF.err (h:FdF w wr A n c ds Am nm cm ms d i) (k:Int):FoP w (.returned (.tuple #[.agg (foC zFo), .int .i64 k])) (wr.setRow (w.heap.size+1+1) (foC zFo)):=⟨zFo,k,rfl,Nat.zero_le _,Nat.zero_le _,aj h.f.low (by omega) _⟩
structure FiF (w wr:World) (A:Option Addr) (n c:Nat) (ds:List Dm) (Am:Option Addr) (nm cm:Nat) (ms:List Mt) (d i:Int) (gd go:Nat):Prop where
 f:FdF w wr A n c ds Am nm cm ms d i
 D:∃ a b:Int,Blk wr gd 44 #[.int .i64 a, .int .i64 b]
 O:∃ x:Fo,Blk wr go 223 (foC x)∧x.nm.size≤12∧x.pa=⟨#[]⟩
 h1:w.heap.size+1+1 < gd
 h2:gd < go
theorem FiF.grow (h:FiF w wr A n c ds Am nm cm ms d i gd go) (hb:Below wr.heap.size wr w'):FiF w w' A n c ds Am nm cm ms d i gd go:=by
 obtain ⟨a,b,hD⟩:=h.D;obtain ⟨x,hO,hx⟩:=h.O;exact ⟨h.f.grow hb,⟨a,b,hD.below hb⟩,⟨x,hO.below hb,hx⟩,h.h1,h.h2⟩
theorem FiF.alloc (h:FiF w wr A n c ds Am nm cm ms d i gd go) (o:Obj):FiF w (wr.alloc o) A n c ds Am nm cm ms d i gd go:=h.grow ((Below.refl _ _).alloc (Nat.le_refl _) _)
theorem FiF.dir (h:FiF w wr A n c ds Am nm cm ms d i gd go) (a b:Int):FiF w (wr.setRow gd #[.int .i64 a, .int .i64 b]) A n c ds Am nm cm ms d i gd go:=by
 obtain ⟨_,_,hD⟩:=h.D;obtain ⟨x,hO,hx⟩:=h.O;have h1:=h.h1;have h2:=h.h2;exact ⟨h.f.row h1 _,⟨a,b,hD.row _⟩,⟨x,hO.ah _ (by omega),hx⟩,h1,h2⟩
theorem FiF.o (h:FiF w wr A n c ds Am nm cm ms d i gd go) (x:Fo) (hx:x.nm.size≤12∧x.pa=⟨#[]⟩):FiF w (wr.setRow go (foC x)) A n c ds Am nm cm ms d i gd go:=by
 obtain ⟨a,b,hD⟩:=h.D;obtain ⟨_,hO,_⟩:=h.O;have h1:=h.h1;have h2:=h.h2;exact ⟨h.f.row (by omega) _,⟨a,b,hD.ah _ (by omega)⟩,⟨x,hO.row _,hx⟩,h1,h2⟩
end
theorem FdF.only {w wr w' :World} {A Am:Option Addr} {n c nm cm:Nat} {ds:List Dm} {ms:List Mt} {d i:Int} (h:FdF w wr A n c ds Am nm cm ms d i) {k:Nat} (hk:w.heap.size+1+1 < k) (hg:wr.grownBy w' (some k)):FdF w w' A n c ds Am nm cm ms d i:=by
 have hb:Below (w.heap.size+1+1+1) wr w' :=(Below.refl _ wr).grown hg (by have:=h.R.lt;omega) (fun q e=>by injection e with e;omega);exact ⟨⟨h.f.low.trans (hb.mono (by omega)),h.f.src.keep hb (by omega),h.f.mts.keep hb (by omega),h.f.V.keep hb (by omega),h.f.U.keep hb (by omega)⟩,h.R.keep hb (by omega)⟩
section
variable {w wr w' :World} {A Am:Option Addr} {n c nm cm gd go:Nat} {ds:List Dm} {ms:List Mt} {d i:Int}
theorem FiF.LQ (h:FiF w wr A n c ds Am nm cm ms d i gd go) (hg:wr.grownBy w' (some gd)) {a b:Int} (hD:Blk w' gd 44 #[.int .i64 a, .int .i64 b]):FiF w w' A n c ds Am nm cm ms d i gd go:=by
 obtain ⟨x,hO,hx⟩:=h.O;have h1:=h.h1;have h2:=h.h2;exact ⟨h.f.only h1 hg,⟨a,b,hD⟩,⟨x,hO.grown hg (fun e=>by injection e with e;omega),hx⟩,h1,h2⟩
theorem PiF.only {A:Option Addr} {c k:Nat} {L:List ByteArray} (h:PiF wr gd go A c L) (hk:k=gd∨k=go) (hg:wr.grownBy w' (some k)):PiF w' gd go A c L:=by
 refine ⟨fun q hq=>?_,h.far,h.cap,h.siz⟩;obtain ⟨ad,e,hl,hc⟩:=h.at_ q hq;refine ⟨ad,e,Nat.lt_of_lt_of_le hl hg.size,fun j hj=>?_⟩;rw [← hc j hj];refine World.cell?_of_block (hg.block _ (by rw [ax,ax];exact hl) ?_);rw [ax,ax];have:=h.far ad e;intro e2;injection e2 with e2;rcases hk with rfl | rfl
 · exact this.1 e2
 · exact this.2 e2
end
def xY:Value→Nat | .slice _ n _=>n | _=>0
theorem Tryz.Bu:(Tryz.prog.info? 73).map (fun i=>(i.zero,i.size,i.bytes))=some (some (.agg kE),13,128):=by kernel_rfl
def j6:El (Itm×bB) where
 C p:=(bf p.1 p.2).toList
 e:=73
 sl:=52
 sz:=13
 bs:=128
 len _:=rfl
 one p u hu:=by
  have:=j4 p.1 p.2;rw [← Array.all_toList,List.all_eq_true] at this;exact this u hu
 pos:=by omega
 small:=by omega
 hu:=Tryz.underlying52
 info:=by
  obtain ⟨i0,h1,h2,h3,h4⟩:=info_parts Tryz.Bu;exact ⟨i0,_,h1,h2,h3,h4,rfl⟩
theorem yx (a b a3 b3:Int) (x:ByteArray):Tryz.prog.built 223 [(0, .agg #[.int .i64 a, .int .i64 b]),(1, .string x),(2, .agg #[.int .i64 a3, .int .i64 b3]),(3, .bool true)]=some (foC ⟨a,b,x,a3,b3,true,false,⟨#[]⟩⟩):=by
 kernel_rfl
def nuP (s:ByteArray) (n:Int):Pr:=⟨s,1,n,⟨#[]⟩⟩
def txP (s t:ByteArray):Pr:=if 640 < t.size then ⟨s,3,0,⟨#[]⟩⟩ else ⟨s,2,0,t⟩
def soP (s t:ByteArray):Pr:=if t.size=0 then ⟨s,3,0,⟨#[]⟩⟩ else txP s t
theorem yF {s t:ByteArray} (h:640 < t.size):txP s t=⟨s,3,0,⟨#[]⟩⟩:=if_pos h
theorem kL {s t:ByteArray} (h:¬ 640 < t.size):txP s t=⟨s,2,0,t⟩:=if_neg h
theorem nz {t:ByteArray} (h:¬ t.size=0):t.toList.isEmpty=false:=by
 cases hq:t.toList.isEmpty with
 | false=>rfl
 | true=>
  have e:=congrArg List.length (List.isEmpty_iff.1 hq);rw [ByteArray.toList_eq,Array.length_toList] at e;exact absurd e h
theorem JN (s:ByteArray) (n:Int) (w:World):Calls Tryz.prog 48 #[.string s, .int .i64 n] w fun e w' =>e= .returned (prV (nuP s n))∧Below w.heap.size w w' :=eB s n w
theorem jK (s t:ByteArray) (w:World):Calls Tryz.prog 47 #[.string s, .string t] w fun e w' =>e= .returned (prV (txP s t))∧Below w.heap.size w w' :=by
 by_cases h:640 < t.size
 · rw [yF h];have h1:(640:Int) < (t.size:Int):=(by omega);go_in;go_wp2_with fail;refine bodyPost_ret (kD (fn:=Tryz.f47) rfl _ _ w.heap.size ⟨s,3,0,⟨#[]⟩⟩ rfl (Blk.new w _ _)) rfl ?_;exact ⟨rfl,(Below.refl _ _).alloc (Nat.le_refl _) _⟩
 · rw [kL h];exact EA s t (by omega) w
theorem oO (s t:ByteArray) (w:World):Calls Tryz.prog 50 #[.string s, .string t] w fun e w' =>e= .returned (prV (soP s t))∧Below w.heap.size w w' :=by
 unfold soP;by_cases h:t.size=0
 · obtain rfl:t=⟨#[]⟩:=by
    cases t with | mk d=>cases d with | mk l=>cases l with | nil=>rfl | cons a l=>simp [ByteArray.size] at h
   exact EB s w
 · rw [if_neg h];have h1:=nz h;go_in;go_wp2_with fail;refine (jK s t _).mono ?_;rintro e w1 ⟨rfl,hb1⟩;have HX:=Blk.below (Blk.new w #[.string ⟨#[]⟩, .int .i64 0, .int .i64 0, .string ⟨#[]⟩] 79) hb1;go_wp2_with ((with_reducible refine ae ?_ 79 (.tmp 4) (.tmp 11) ?_ HX (prA (txP s t)) ?_ ?_ ?_ ?_ ?_ ?_);(iterate 4 rfl);(exact Ja _);rfl;(exact Ez _));refine bodyPost_ret (kD (fn:=Tryz.f50) rfl _ _ w.heap.size (txP s t) rfl (Blk.row HX _)) rfl ?_;exact ⟨rfl,aj (aa ((Below.refl _ _).alloc (Nat.le_refl _) _) (by exact hb1)) (Nat.le_refl _) _⟩
abbrev dH:Array Value:=#[.int .i64 0, .int .i64 0, .int .i64 0, .int .i64 0, .int .i64 0, .int .i64 0, .int .i64 0, .int .i64 0, .int .i64 0, .int .i64 0, .int .i64 0, .string ⟨#[]⟩, .string ⟨#[]⟩, .slice none 0 0, .bool false, .int .i64 0, .int .i64 0, .int .i64 0, .int .i64 0, .int .i64 0, .slice none 0 0, .slice none 0 0, .int .i64 0, .slice none 0 0, .int .i64 0]
attribute [local irreducible] gB
end Go.Proofs.YtollifnnpihfdaaGreatDoor
namespace Go.Proofs.YtollifnnpihfdaaGreatDoor
open Go.RowKit
theorem vP (c:Ctx) (r:eD) (A:Option Addr) (n cp:Nat):(gB c r (.slice A n cp)).all (·.oneCell')=true:=by simp [gB,Value.oneCell']
def Hw (w:World) (base:Nat) (v:Value) (L:List (Itm×bB)):Prop:=w.ownsRow base 73 13 v L.length (L.flatMap fun p=>(bf p.1 p.2).toList)
theorem nA (i:Itm) (r:bB):(bf i r).toList.length=13:=rfl
theorem dV:∀ (L:List (Itm×bB)) (k:Nat) (hk:k < L.length) (j:Nat),j < 13→(L.flatMap fun p=>(bf p.1 p.2).toList)[k * 13+j]? =(bf (L[k]'hk).1 (L[k]'hk).2)[j]?
 | [],k,hk,_,_=>by simp at hk
 | p :: L,0,_,j,hj=>by
  rw [List.flatMap_cons,List.getElem?_append_left (by rw [nA];omega)];simp
 | p :: L,k+1,hk,j,hj=>by
  have ih:=dV L k (by simp at hk;omega) j hj;rw [List.flatMap_cons,List.getElem?_append_right (by rw [nA];omega),nA,show (k+1) * 13+j - 13=k * 13+j by omega,ih];simp
theorem Fy (g a b:Nat):((⟨g,0,none⟩:Addr).add a).add b=⟨g,a+b,none⟩:=by
 unfold Addr.add;split
 · split
   · subst_vars;rfl
   · subst_vars;simp
 · split
   · subst_vars;simp
   · simp
theorem add_zero (g n:Nat):(⟨g,0,none⟩:Addr).add n=⟨g,n,none⟩:=by
 unfold Addr.add;split
 · subst_vars;rfl
 · simp
theorem Hw.items {w:World} {base:Nat} {v:Value} {L:List (Itm×bB)} (h:Hw w base v L):∃ A c,v= .slice A L.length c∧bY w w.heap.size A L:=by
 rcases Joins.ownsRow_forms h with ⟨rfl,h0⟩ | ⟨g,cap,rfl⟩
 · have:L= []:=List.eq_nil_of_length_eq_zero h0;subst this;exact ⟨none,0,rfl,bY.nil⟩
 · refine ⟨_,cap,rfl,fun k hk=>⟨_,rfl,(World.ownsRow.lt h g rfl).2,fun j hj=>?_⟩⟩;have hf:=dV L k hk j hj;have hs:j < (bf (L[k]'hk).1 (L[k]'hk).2).size:=hj;rw [Array.getElem?_eq_getElem hs] at hf ⊢;have hc:=World.ownsRow.cells h (g:=g) rfl (k * 13+j) _ hf;rw [add_zero] at hc;rw [Fy];exact hc
structure K1 (w wr:World) (base g:Nat) (b:Int) (gc:Nat) (c:Ctx) (r:eD) (it:Value):Prop where
 only:w.grownBy wr (some g)
 src:aY wr base g b
 rb:Blk wr w.heap.size 54 dH
 cb:Blk wr gc 54 (gB c r it)
 h2:w.heap.size < gc
 h3:g < w.heap.size
 h4:base≤w.heap.size
section
variable {w wr w' :World} {base g gc:Nat} {b b' :Int} {c:Ctx} {r:eD} {it:Value}
end
attribute [local irreducible] gB bf
end Go.Proofs.YtollifnnpihfdaaGreatDoor
namespace Go.Proofs.YtollifnnpihfdaaGreatDoor
open Go.RowKit
theorem BV (a:Addr) (w:World):(loadVar 3 a).run Tryz.prog w=(load a).run Tryz.prog w:=by
 unfold loadVar;simp [go_sem]
theorem BZ (a:Addr) (w:World):(loadVar 9 a).run Tryz.prog w=(load a).run Tryz.prog w:=by
 unfold loadVar;simp [go_sem]
theorem zV {w:World} {g:Nat} {c:Ctx} {r:eD} {it:Value} (h:ig w g c r it):(loadVar 54 ⟨g,0,none⟩).run Tryz.prog w= .ok (.agg (gB c r it)) w:=run_loadVar_row w g _ _ _ _ _ h Tryz.underlying54 rfl (qI _ _ _)
theorem Fz {w:World} {g:Nat} {i:Itm} {r:bB} (h:il w g i r):(loadVar 73 ⟨g,0,none⟩).run Tryz.prog w= .ok (.agg (bf i r)) w:=run_loadVar_row w g _ _ _ _ _ h Tryz.underlying73 rfl (jA _ _)
attribute [local irreducible] gB bf nZ Jd KA ic
attribute [-go_sem] loadVar
attribute [local go_sem] BV BZ
end Go.Proofs.YtollifnnpihfdaaGreatDoor
namespace Go.Proofs.YtollifnnpihfdaaGreatDoor
open Go.RowKit
theorem vQ {P:Program} {w:World} {a:Addr} {ty:TypeId} {cs:Array Value} {d:TypeDesc} (h:∀ j v,cs.toList[j]? =some v→w.cell? (a.add j)=some v)
  (hu:P.underlying ty=some d) (hd:(match d with | .struct _ | .array _ _=>true | _=>false)=true) (hi:(P.info? ty).map (·.size)=some cs.size):
  (loadVar ty a).run P w= .ok (.agg cs) w:=by
 have hl:(loadCells a cs.toList.length).run P w= .ok cs.toList.toArray w:=run_loadCells_list (P:=P) w a cs.toList h;cases hq:P.info? ty with
 | none=>simp [hq] at hi
 | some i=>
  have hs:i.size=cs.size:=by simpa [hq] using hi
  have hagg:(isAgg ty).run P w= .ok true w:=by
   unfold isAgg;rw [Sem.run_bind,run_underlying hu w];cases d <;> simp_all
  simp only [Array.length_toList,Array.toArray_toList] at hl;simp [loadVar,Sem.run_bind,hagg,sizeOf,typeInfo,hq,hs,hl]
theorem Ca {w:World} {a:Addr} {i:Itm} {r:bB} (h:∀ j,j < 13→w.cell? (a.add j)=(bf i r)[j]?):(loadVar 73 a).run Tryz.prog w= .ok (.agg (bf i r)) w:=
 vQ (fun j v hv=>by
  have hj:j < 13:=by
   rcases Nat.lt_or_ge j 13 with hj | hj
   · exact hj
   · rw [List.getElem?_eq_none (by show 13≤j;exact hj)] at hv;cases hv
  rw [h j hj];simpa using hv) Tryz.underlying73 rfl (jA _ _)
theorem Cb (x y:Int):(Tryz.prog.info? 44).map (·.size)=some (#[Value.int .i64 x, .int .i64 y]:Array Value).size:=by show _=some 2;kernel_rfl
theorem Ce {w:World} {b o:Nat} {x y:Int} (h5:w.cell? ⟨b,o,none⟩=some (.int .i64 x)) (h6:w.cell? ⟨b,o+1,none⟩=some (.int .i64 y)):(loadVar 44 ⟨b,o,none⟩).run Tryz.prog w= .ok (.agg #[.int .i64 x, .int .i64 y]) w:=
 vQ (fun j v hv=>by
  match j with
  | 0=>simp at hv;subst hv;exact h5
  | 1=>simp at hv;subst hv;exact h6
  | j+2=>simp at hv) Tryz.underlying44 rfl (Cb _ _)
theorem MF (a:Addr) (w:World):(loadVar 52 a).run Tryz.prog w=(load a).run Tryz.prog w:=by
 unfold loadVar;simp [go_sem]
attribute [local irreducible] gB nZ uN ic uO uP xS Je
attribute [-go_sem] loadVar
attribute [local go_sem] BV BZ MF
end Go.Proofs.YtollifnnpihfdaaGreatDoor
namespace Go.Proofs.YtollifnnpihfdaaGreatDoor
open Go.RowKit
theorem FD {w:World} {base:Nat} {e:TypeId} {size:Nat} {v:Value} {k:Nat} {xs:List Value} (h:w.ownsRow base e size v k xs) {q:Nat} {t:TypeId} {cs:Array Value} (hk:Blk w q t cs) (hne:e≠t):v.ownBlock≠some q:=fun e2=>by
 rcases h.2 with ⟨rfl,_⟩ | ⟨g',cap,cur,rfl,_,hgg,_⟩
 · cases e2
 · have e3:g' =q:=Option.some.inj e2;subst e3;rw [show w.heap[g']? =_ from hk] at hgg;injection hgg with hgg;injection hgg with _ h2;exact hne h2.symm
theorem nD {w w' :World} {base:Nat} {e:TypeId} {size:Nat} {v:Value} {k:Nat} {xs:List Value} (h:w.ownsRow base e size v k xs) {q:Nat} {t:TypeId} {cs:Array Value} (hk:Blk w q t cs) (hne:e≠t) (hg:w.grownBy w' (some q)):w'.ownsRow base e size v k xs:=
 World.ownsRow.kept h hg (by
  cases hv:v.ownBlock with
  | none=>exact .inl rfl
  | some k=>right;intro e2;exact FD h hk hne (by rw [hv];exact e2))
abbrev pcC (c:Ctx) (r:eD):Array Value:=#[.int .i64 (c.p 0), .int .i64 (c.p 1), .int .i64 (c.p 2), .int .i64 (c.p 3), .int .i64 (c.p 4), .int .i64 (c.p 5), .int .i64 (c.p 6), .int .i64 (c.p 7), .int .i64 r.d, .int .i64 r.i, .string c.comm, .string c.exe,r.o.v, .bool r.u]
abbrev zpC:Array Value:=#[.int .i64 0, .int .i64 0, .int .i64 0, .int .i64 0, .int .i64 0, .int .i64 0, .int .i64 0, .int .i64 0, .int .i64 0, .int .i64 0, .string ⟨#[]⟩, .string ⟨#[]⟩, .slice none 0 0, .bool false]
theorem Ck (c:Ctx) (r:eD) (it:Value) (j:Nat) (u:Value) (h:(pcC c r).toList[j]? =some u):(gB c r it)[1+j]? =some u:=by
 have hl:(gB c r it).toList= [.int .i64 c.ph] ++ ((pcC c r).toList ++ [.int .i64 r.n, .int .i64 (c.a 0), .int .i64 (c.a 1), .int .i64 (c.a 2), .int .i64 (c.a 3),r.ps.v,r.gs.v, .int .i64 c.ex,it, .int .i64 c.ty]):=rfl;rw [← Array.getElem?_toList,hl,List.getElem?_append_right (by simp)];have hj:=(List.getElem?_eq_some_iff.1 h).1;rw [List.getElem?_append_left (by simpa using hj)];simpa using h
theorem Cm (c:Ctx) (r:eD):(Tryz.prog.info? 47).map (·.size)=some (pcC c r).size:=by show _=some 14;kernel_rfl
theorem zY (c:Ctx) (r:eD):zpC.size=(pcC c r).size:=rfl
theorem zZ (c:Ctx) (r:eD):(pcC c r).all (·.oneCell')=true:=by simp [Value.oneCell']
theorem Cn {w:World} {g:Nat} {c:Ctx} {r:eD} {it:Value} (h:Blk w g 54 (gB c r it)):(loadVar 47 ⟨g,1,none⟩).run Tryz.prog w= .ok (.agg (pcC c r)) w:=
 qF (fun j u hu=>by rw [Hm,h.cell];exact Ck c r it j u hu) Tryz.underlying47 rfl (Cm c r)
attribute [local irreducible] gB
attribute [-go_sem] loadVar
attribute [local go_sem] lv3
end Go.Proofs.YtollifnnpihfdaaGreatDoor
namespace Go.Proofs.YtollifnnpihfdaaGreatDoor
open Go.RowKit
def kr:List Pr→ByteArray→Option Pr
 | [],_=>none
 | p :: r,s=>if (p.nm.toList == s.toList)=true then some p else kr r s
theorem zh {p:Pr} {r:List Pr} {s:ByteArray} (h:(p.nm.toList == s.toList)=true):kr (p :: r) s=some p:=if_pos h
theorem CJ {p:Pr} {r:List Pr} {s:ByteArray} (h:(p.nm.toList == s.toList)=false):kr (p :: r) s=kr r s:=if_neg (by simp [h])
abbrev iK (p:Pr):Array Value:=#[.string p.nm, .int .i64 p.kd, .int .i64 p.nu, .string p.tx]
def CK:Pr:=⟨⟨#[]⟩,0,0,⟨#[]⟩⟩
def GtR (o:Option Pr) (w:World) (e:Ending) (w' :World):Prop:=e= .returned (.tuple #[.agg (iK (o.getD CK)), .bool o.isSome])∧Below w.heap.size w w'
theorem o7 (p:Pr):(Tryz.prog.info? 79).map (·.size)=some (iK p).size:=by show _=some 4;kernel_rfl
theorem nH (p:Pr):(iK p).all (·.oneCell')=true:=by simp [Value.oneCell']
theorem qY {fn:Func} {i j:Nat} (h:fn.results=#[.cell i 79, .tmp j]) (tmps:Array Value) (w:World) (g:Nat) (p:Pr) (hp:tmps.getD i undef= .pointer (some ⟨g,0,none⟩)) (hg:Blk w g 79 (iK p)):
  (results fn tmps).run Tryz.prog w= .ok (.tuple #[.agg (iK p),tmps.getD j undef]) w:=by
 have hp' :tmps[i]?.getD undef= .pointer (some ⟨g,0,none⟩):=by simpa using hp
 simp [results,h,hp',asAddr,run_loadVar_row w g 79 79 (iK p) (0,0) _ hg Tryz.underlying79 rfl (o7 p)]
theorem o8 (r:Rc) (A:Option Addr) (n c:Nat) (ps:List Pr) (hn:n=ps.length) (hl:n≤1000) (nm:ByteArray) (w:World) (h:AtE EP w w.heap.size A ps):
  Calls Tryz.prog 23 #[.agg (rcC r (.slice A n c)), .string nm] w (GtR (kr ps nm) w):=by
 have HN:=Hd hn;have HL:=Hd hl;have hb0:=((Below.refl w.heap.size w).alloc (Nat.le_refl _) (.cells (rcC r (.slice A n c)) 77)).alloc (by simp) (.cells (iK CK) 79);have h2:=Blk.new (w.alloc (.cells (rcC r (.slice A n c)) 77)) (iK CK) 79;simp only [World.size_alloc] at h2;have B0:=Hd hb0;have V0:=Hd ((Blk.new w (rcC r (.slice A n c)) 77).alloc (.cells (iK CK) 79));have R0:=Hd h2;have D0:=Hd (h.keep hb0 (Nat.le_refl _));clear h hn hl hb0 h2;go_in;go_upto_region 1 with fail;generalize hw0:(w.alloc (.cells (rcC r (.slice A n c)) 77)).alloc (.cells (iK CK) 79)=w0 at *;rw [show (w.alloc (.cells (rcC r (.slice A n c)) 77)).alloc (.cells #[.string ⟨#[]⟩, .int .i64 0, .int .i64 0, .string ⟨#[]⟩] 79)=w0 from hw0];clear hw0;go_wp2_with fail;go_loopw [6] (fun ix wr=>∃ k:Nat,k≤ps.length∧ix= .int .i64 k∧wr=w0∧Hid (kr ps nm=kr (ps.drop k) nm)) (fun ix _=>ps.length - (intOf ix).toNat);case atStart=>exact ⟨0,Nat.zero_le _,rfl,rfl,Hd rfl⟩
 case round=>
  obtain ⟨k,hk,rfl,rfl,HE⟩:=hrel;have WK:=Hd (bA hk (by have:=HL.o;have:=HN.o;omega));have x3:wr.cell? ⟨w.heap.size,3,none⟩=some (.slice A n c):=V0.o.cell 3;have hn:=HN.o;by_cases hlt:k < ps.length;case neg=>
   have k1:¬ (k:Int) < (n:Int):=(by rw [hn];omega);have HZ:=Hd (show kr ps nm=none by rw [HE.o,List.drop_eq_nil_of_le (by omega)];rfl);clear hn;go_wp2_with ((with_reducible refine ae ?_ 79 (.tmp 4) (.tmp 27) ?_ R0.o (iK CK) ?_ ?_ ?_ ?_ ?_ ?_);(iterate 4 rfl);(exact o7 _);rfl;(exact nH _));refine bodyPost_ret (qY (fn:=Tryz.f23) rfl _ _ (w.heap.size+1) CK rfl (Blk.row R0.o _)) rfl ?_;rw [HZ.o];exact ⟨rfl,aj B0.o (by omega) _⟩
  case pos=>
   have k1:(k:Int) < (n:Int):=(by rw [hn];omega);have k2:(0:Int)≤(k:Int):=(by omega);obtain ⟨ad,ea,_,hcx⟩:=D0.o k hlt;obtain ⟨s0,s1,s2,s3⟩:=xQ (a:=ad.add (k * 4)) hcx;rw [ea] at x3;have HD:=Hd (show ps.drop k=ps[k] :: ps.drop (k+1) from List.drop_eq_getElem_cons hlt);clear hcx ea hn;generalize ps[k]=p at *;cases hq:(p.nm.toList == nm.toList);case true=>
    have HZ:=Hd (show kr ps nm=some p by rw [HE.o,HD.o,zh hq]);go_wp2_with ((with_reducible refine ae ?_ 79 (.tmp 4) (.tmp 26) ?_ R0.o (iK p) ?_ ?_ ?_ ?_ ?_ ?_);(iterate 4 rfl);(exact o7 _);rfl;(exact nH _));refine bodyPost_ret (qY (fn:=Tryz.f23) rfl _ _ (w.heap.size+1) p rfl (Blk.row R0.o _)) rfl ?_;rw [HZ.o];exact ⟨rfl,aj B0.o (by omega) _⟩
   case false=>
    have HZ:=Hd (show kr ps nm=kr (ps.drop (k+1)) nm by rw [HE.o,HD.o,CJ hq]);obtain ⟨wk1,wk2⟩:=WK.o;go_wp2_with fail;clear wk1 wk2;go_roundw;case rel=>exact ⟨k+1,hlt,rfl,by first | rfl | trivial,HZ⟩
    case measure=>exact aO hlt _ rfl
end Go.Proofs.YtollifnnpihfdaaGreatDoor
