import Derived.Test.YtollifnnpihfdaaGreatDoorG14
import Derived.Test.YtollifnnpihfdaaGreatDoorG15
import Derived.Test.YtollifnnpihfdaaGreatDoorRows
set_option maxRecDepth 100000
set_option maxHeartbeats 64000000
set_option linter.all false
namespace Go.Proofs.YtollifnnpihfdaaGreatDoor
open Go.RowKit
theorem rR (w:World) (base g:Nat) (b:Int) (h:aB w base g b) (hb:b≤100000000000000):
  Calls Tryz.prog 76 #[.pointer (some ⟨g,0,none⟩)] w (CQ w base g (b+4) 6):=by
 have H:=Hd h;have HB:=Hd hb;have rz:g < w.heap.size:=aW h;clear h hb;go_in;go_wp2_with fail;refine (aF _ base g w.heap.size b 5 1 3 _ 3 (0,0) (H.o.alloc _) (by have:=HB.o;omega) (heap_alloc_new w _) (by omega) rfl (by omega) (by omega) rfl).mono ?_;rintro e w1 ⟨x,rfl,hx0,hx1,hs,hg⟩;obtain ⟨k0,rfl⟩:=Int.eq_ofNat_of_zero_le (show 0≤x by omega);have HS:=Hd hs;have hgf:=(av (World.grownBy.refl w (some g)) (.cells #[.int .i64 1, .int .i64 1, .int .i64 2, .int .i64 2, .int .i64 3] 3)).trans hg;clear hs hg;go_wp2_with fail;go_loopw [3,4] (fun v i wr=>∃ (T:ByteArray) (k:Nat),v= .string T∧i= .int .i64 (k:Int)∧T.size+2 * k≤6∧w.grownBy wr (some g)∧Hid (aB wr base g (b+4 - k))) (fun _ i _=>(intOf i).toNat);case atStart=>exact ⟨⟨#[]⟩,k0,rfl,rfl,by show 0+2 * k0≤6;omega,hgf,HS.o.more (by omega)⟩
 case round=>
  obtain ⟨T,k,rfl,rfl,hT,hgr,hsr⟩:=hrel;clear hgf HS hx0 hx1;by_cases hk:0 < k
  · have hk1:(0:Int) < (k:Int):=(by omega);have hT4:T.size≤6:=(by omega);have hlt:g < wr.heap.size:=aW hsr.o;go_wp2_with fail;refine (fJ _ base g wr.heap.size (b+4 - k) 5 1 _ 9 (0,0) (hsr.o.alloc _) (by have:=HB.o;omega) (heap_alloc_new wr _) (by omega) rfl (by omega) (by omega) rfl).mono ?_;rintro e w2 ⟨y,rfl,hym,hs2,hg2⟩;have HS2:=Hd hs2;have hgf:=(av hgr _).trans hg2;have z1:((⟨#[47]⟩:ByteArray) ++ y).size≤2:=(by rw [ByteArray.size_append];show 1+y.size≤2;omega);clear hs2 hg2;go_wp2_with fail;go_roundw;case rel=>exact ⟨_,k - 1,rfl,by go_num,by rw [ByteArray.size_append];omega,hgf,HS2.o.more (by omega)⟩
    case measure=>simp [intOf];omega
  · go_wp2_with fail;go_ret;exact ⟨_,rfl,by omega,hsr.o.more (by omega),hgr⟩
abbrev idC (p:Nat→Int) (comm exe:ByteArray) (au:Bool):Array Value:=#[.int .i64 (p 0), .int .i64 (p 1), .int .i64 (p 2), .int .i64 (p 3), .int .i64 (p 4), .int .i64 (p 5), .int .i64 (p 6), .int .i64 (p 7), .int .i64 0, .int .i64 0, .string comm, .string exe, .slice none 0 0, .bool au]
def JK (w:World) (base g:Nat) (b:Int) (e:Ending) (w' :World):Prop:=∃ (p:Nat→Int) (comm exe:ByteArray) (au:Bool),e= .returned (.agg (idC p comm exe au))∧comm.size≤5∧exe.size≤5∧aB w' base g b∧w.grownBy w' (some g)
def pOf (a b c d e f g h:Int):Nat→Int:=fun j=>if j=0 then a else if j=1 then b else if j=2 then c else if j=3 then d else if j=4 then e else if j=5 then f else if j=6 then g else h
theorem JL (p:Nat→Int) (comm exe:ByteArray) (au:Bool):(idC p comm exe au).all (·.oneCell')=true:=by simp [Value.oneCell']
theorem JM (p:Nat→Int) (comm exe:ByteArray) (au:Bool):(Tryz.prog.info? 47).map (·.size)=some (idC p comm exe au).size:=by show _=some 14;kernel_rfl
theorem JN {f:FuncId} {fn:Func} (_hf:Tryz.prog.funcs[f]? =some fn) (h:fn.results=#[.cell 2 47]) (tmps:Array Value) (w:World) (g:Nat) (cs:Array Value) (hp:tmps.getD 2 undef= .pointer (some ⟨g,0,none⟩)) (hg:Blk w g 47 cs) (h5:cs.size=14):
  (results fn tmps).run Tryz.prog w= .ok (.agg cs) w:=
 results_cell_row h tmps w g _ cs (0,0) _ hp hg Tryz.underlying47 rfl (by rw [h5];exact JM (fun _=>0) ⟨#[]⟩ ⟨#[]⟩ false)
structure I0 (w wr:World) (base g:Nat) (b:Int):Prop where
 only:w.grownBy wr (some g)
 src:aB wr base g b
 rb:Blk wr w.heap.size 47 Gw
 ids:Blk wr (w.heap.size+1) 3 #[.int .i64 0, .int .i64 0, .int .i64 5, .int .i64 7, .int .i64 1000, .int .i64 4294967295]
 h3:g < w.heap.size
 h4:base≤w.heap.size
theorem I0.alloc {w wr:World} {base g:Nat} {b:Int} (h:I0 w wr base g b) (o:Obj):I0 w (wr.alloc o) base g b:=⟨av h.only o,h.src.alloc o,h.rb.alloc o,h.ids.alloc o,h.h3,h.h4⟩
theorem I0.step {w wr w' :World} {base g:Nat} {b b' :Int} (h:I0 w wr base g b) (hs:aB w' base g b') (hg:wr.grownBy w' (some g)):I0 w w' base g b' :=⟨h.only.trans hg,hs,h.rb.grown hg (fun e=>by injection e with e;have:=h.h3;omega),h.ids.grown hg (fun e=>by injection e with e;have:=h.h3;omega),h.h3,h.h4⟩
theorem zk (w:World) (base g:Nat) (b:Int) (h:aB w base g b) (hb:b≤100000000000000):
  Calls Tryz.prog 60 #[.pointer (some ⟨g,0,none⟩)] w (JK w base g (b+11)):=by
 have HB:=Hd hb;have rz:g < w.heap.size:=aW h;have hbase:base≤w.heap.size:=by have:=h.1;omega
 have st0:I0 w ((w.alloc (.cells Gw 47)).alloc (.cells #[.int .i64 0, .int .i64 0, .int .i64 5, .int .i64 7, .int .i64 1000, .int .i64 4294967295] 3)) base g b:=⟨av (av (World.grownBy.refl w (some g)) _) _,(h.alloc _).alloc _,(Blk.new w _ _).alloc _,by have:=Blk.new (w.alloc (.cells Gw 47)) #[.int .i64 0, .int .i64 0, .int .i64 5, .int .i64 7, .int .i64 1000, .int .i64 4294967295] 3;simpa using this,rz,hbase⟩;clear h hb;go_in;go_wp2_with fail;refine (aA _ base g (b) 1 4 st0.src (by have:=HB.o;omega) (by omega) (by omega) (by omega)).mono ?_;rintro e w1 ⟨x1,rfl,x1a,x1b,hs,hg⟩;have st1:=st0.step hs hg;clear hs hg st0;go_wp2_with fail;refine (bG _ base g (b+1) 3 st1.src (by have:=HB.o;omega) (by omega) (by omega)).mono ?_;rintro e w2 ⟨x2,rfl,x2a,x2b,hs,hg⟩;have st2:=st1.step hs hg;clear hs hg st1;go_wp2_with fail;refine (aF _ base g (w.heap.size+1) (b+1+1) 6 0 4294967295 _ 3 (0,0) st2.src (by have:=HB.o;omega) st2.ids (by omega) rfl (by omega) (by omega) rfl).mono ?_;rintro e w3 ⟨x3,rfl,x3a,x3b,hs,hg⟩;have st3:=st2.step hs hg;clear hs hg st2;go_wp2_with fail;refine (aF _ base g (w.heap.size+1) (b+1+1+1) 6 0 4294967295 _ 3 (0,0) st3.src (by have:=HB.o;omega) st3.ids (by omega) rfl (by omega) (by omega) rfl).mono ?_;rintro e w4 ⟨x4,rfl,x4a,x4b,hs,hg⟩;have st4:=st3.step hs hg;clear hs hg st3;go_wp2_with fail;refine (aF _ base g (w.heap.size+1) (b+1+1+1+1) 6 0 4294967295 _ 3 (0,0) st4.src (by have:=HB.o;omega) st4.ids (by omega) rfl (by omega) (by omega) rfl).mono ?_;rintro e w5 ⟨x5,rfl,x5a,x5b,hs,hg⟩;have st5:=st4.step hs hg;clear hs hg st4;go_wp2_with fail;refine (aF _ base g (w.heap.size+1) (b+1+1+1+1+1) 6 0 4294967295 _ 3 (0,0) st5.src (by have:=HB.o;omega) st5.ids (by omega) rfl (by omega) (by omega) rfl).mono ?_;rintro e w6 ⟨x6,rfl,x6a,x6b,hs,hg⟩;have st6:=st5.step hs hg;clear hs hg st5;go_wp2_with fail;refine (aF _ base g (w.heap.size+1) (b+1+1+1+1+1+1) 6 0 4294967295 _ 3 (0,0) st6.src (by have:=HB.o;omega) st6.ids (by omega) rfl (by omega) (by omega) rfl).mono ?_;rintro e w7 ⟨x7,rfl,x7a,x7b,hs,hg⟩;have st7:=st6.step hs hg;clear hs hg st6;go_wp2_with fail;refine (aF _ base g (w.heap.size+1) (b+1+1+1+1+1+1+1) 6 0 4294967295 _ 3 (0,0) st7.src (by have:=HB.o;omega) st7.ids (by omega) rfl (by omega) (by omega) rfl).mono ?_;rintro e w8 ⟨x8,rfl,x8a,x8b,hs,hg⟩;have st8:=st7.step hs hg;clear hs hg st7;go_wp2_with fail;refine (fJ _ base g w8.heap.size (b+1+1+1+1+1+1+1+1) 3 5 _ 9 (0,0) (st8.src.alloc _) (by have:=HB.o;omega) (heap_alloc_new w8 _) (by have:=aW st8.src;omega) rfl (by omega) (by omega) rfl).mono ?_;rintro e w9 ⟨x9,rfl,x9a,hs,hg⟩;have st9:=(st8.alloc (.cells #[.string ⟨#[105,110,105,116]⟩, .string ⟨#[97]⟩, .string ⟨#[98]⟩] 9)).step hs hg;clear hs hg st8;go_wp2_with fail;refine (fJ _ base g w9.heap.size (b+1+1+1+1+1+1+1+1+1) 3 5 _ 9 (0,0) (st9.src.alloc _) (by have:=HB.o;omega) (heap_alloc_new w9 _) (by have:=aW st9.src;omega) rfl (by omega) (by omega) rfl).mono ?_;rintro e w10 ⟨x10,rfl,Sk,hs,hg⟩;have mK:=(st9.alloc (.cells #[.string ⟨#[47,105,110,105,116]⟩, .string ⟨#[47,97]⟩, .string ⟨#[]⟩] 9)).step hs hg;clear hs hg st9;go_wp2_with fail;refine (bG _ base g (b+1+1+1+1+1+1+1+1+1+1) 8 mK.src (by have:=HB.o;omega) (by omega) (by omega)).mono ?_;rintro e w11 ⟨x11,rfl,UI,UJ,hs,hg⟩;have jK:=mK.step hs hg;clear hs hg mK;have HRB:=Hd jK.rb;go_wp2_with ((with_reducible refine ae ?_ 47 (.tmp 2) (.tmp 36) ?_ HRB.o (idC (pOf x1 x2 x3 x4 x5 x6 x7 x8) x9 x10 (decide (0 < x11))) ?_ ?_ ?_ ?_ ?_ ?_);(iterate 4 rfl);(exact JM _ _ _ _);rfl;(exact JL _ _ _ _));refine bodyPost_ret (JN Tryz.func60 rfl _ _ w.heap.size _ rfl (jK.rb.row _) rfl) rfl ?_;exact ⟨(pOf x1 x2 x3 x4 x5 x6 x7 x8),x9,x10,_,rfl,x9a,Sk,(jK.src.keep (setRow_other _ w.heap.size g _ (by omega)) (fun i hi=>setRow_other _ w.heap.size i _ (by omega))).more (by omega),⟨jK.only.os,jK.only.tape,jK.only.output,by rw [setRow_size];exact jK.only.size,fun i hi hne=>(setRow_other _ w.heap.size i _ (by omega)).trans (jK.only.block i hi hne)⟩⟩
theorem Dq (w:World) (cs:Array Value) (t:TypeId) (j:Nat) (u:Value) (h:cs.toList[j]? =some u):(w.alloc (.cells cs t)).cell? ((⟨w.heap.size,0,none⟩:Addr).add j)=some u:=by
 rw [rX,(Blk.new w cs t).cell];simpa using h
theorem nN (w:World) (base:Nat) (ty:TypeId) (v:Value) (L:List Tst) (ad:Addr) (t:Tst) (hown:fH w base v L) (hr:∀ j u,(rA t).toList[j]? =some u→w.cell? (ad.add j)=some u) (hlen:L.length≤1000000) (hbase:base≤w.heap.size):
  ∃ v' w',(Builtin.append_ #[86,86] ty #[v, .slice (some ad) 1 1]).run Tryz.prog w= .ok v' w' ∧fH w' base v' (L ++ [t])∧w.grownBy w' v.ownBlock∧(v'.ownBlock=v.ownBlock∨v'.ownBlock=some w.heap.size):=by
 obtain ⟨i0,hi,hz0,hz1,hz2⟩:=info_parts Tryz.JV;obtain ⟨v',w',hrun,h2,h3,_,h4⟩:=run_append_own_at (P:=Tryz.prog) w base 86 ty 85 i0 _ 5 48 Tryz.underlying86 hi hz0 hz1 hz2 rfl (by omega) v L.length _ hown ad 1 1 (rA t).toList rfl hr (by
   intro u hu;have:=zq t;rw [← Array.all_toList,List.all_eq_true] at this;exact this u hu) (by unfold maxLen;omega) (by omega) hbase
 refine ⟨v',w',hrun,?_,h3,h4⟩;show w'.ownsRow base 85 5 v' (L ++ [t]).length ((L ++ [t]).flatMap fun t=>(rA t).toList);rw [List.length_append,List.flatMap_append];simpa using h2
theorem mR {ops:Array Oper} {o:Oper} {a:Act} {w:World} {K:Act→World→Prop} {Q:Exit→Act→World→Prop} {E:Prop} (hgd:o.guard=none) (s x:Operand) (ho:o.op= .call { callee:= .builtin .append,args:=#[s,x],argTypes:=#[86,86] })
  (base:Nat) (v:Value) (L:List Tst) (hs:a.eval s=v) (hown:fH w base v L) (ad:Addr) (t:Tst) (hx:a.eval x= .slice (some ad) 1 1) (hr:∀ j u,(rA t).toList[j]? =some u→w.cell? (ad.add j)=some u) (hlen:L.length≤1000000) (hbase:base≤w.heap.size)
  (h:∀ v' w',fH w' base v' (L ++ [t])→w.grownBy w' v.ownBlock→(v'.ownBlock=v.ownBlock∨v'.ownBlock=some w.heap.size)→K (a.put o.dst v') w'):
  if Region.wanted o (yielded ops a.tmps)=true then Oper.wp Tryz.prog o a w K Q else E:=by
 have hw:Region.wanted o (yielded ops a.tmps)=true:=by simp [Region.wanted,hgd]
 rw [if_pos hw];obtain ⟨v',w',hrun,h2,h3,h4⟩:=nN w base o.type v L ad t hown hr hlen hbase;unfold Oper.wp execOp;simp only [ho,resolve,invoke,builtin,Sem.run_bind,Sem.run_pure,Result.andThen_ok,List.map_toArray,List.map_cons,List.map_nil,hs,hx,hrun];exact h v' w' h2 h3 h4
attribute [local irreducible] jw dV
theorem qO {z:Int} (h:z < 0∨22≤z):jF z=⟨⟨#[]⟩,0,0,0,0⟩:=h.elim xw o9
theorem Li (z:Int) (w:World) (hc:Calls10 w):Calls Tryz.prog 92 #[.int .i64 z] w fun e w' =>e= .returned (.string (jF z).name)∧w=w' :=by
 by_cases h:z < 0∨22≤z
 · rw [qO h];exact Bb z h w
 · obtain ⟨n,rfl⟩:=Int.eq_ofNat_of_zero_le (show 0≤z by omega);rw [qJ];exact Pm n (by omega) w hc
end Go.Proofs.YtollifnnpihfdaaGreatDoor
namespace Go.Proofs.YtollifnnpihfdaaGreatDoor
open Go.RowKit
theorem ny {α:Type} (E:El α) (w:World) (cs:Array Value) (t:TypeId) (L:List α) (h:cs.toList=L.flatMap E.C) {B:Nat} (hB:w.heap.size < B):AtE E (w.alloc (.cells cs t)) B (some ⟨w.heap.size,0,none⟩) L:=fun k hk=>by
 refine ⟨_,rfl,hB,fun j hj=>?_⟩;rw [pO,(Blk.new w cs t).cell, ← Array.getElem?_toList,h,E.fe L k hk j hj]
theorem qP {fn:Func} {n:Nat} (h:fn.results=#[.cell n 77]) (tmps:Array Value) (w:World) (g:Nat) (r:Rc) (s:Value) (hp:tmps.getD n undef= .pointer (some ⟨g,0,none⟩)) (hg:Blk w g 77 (rcC r s)):
  (results fn tmps).run Tryz.prog w= .ok (rcV r s) w:=
 results_cell_row h tmps w g _ (rcC r s) (0,0) _ hp hg Tryz.underlying77 rfl (by show _=some 4;kernel_rfl)
abbrev zrC:Array Value:=#[.int .i64 0, .int .i64 0, .int .i64 0, .slice none 0 0]
theorem jy (s:ByteArray) (n:Int) (w:World):Calls Tryz.prog 55 #[.string s, .int .i64 n] w fun e w' =>e= .returned (prV ⟨s,1,n,⟨#[]⟩⟩)∧Below w.heap.size w w' :=sZ s n w
theorem yt {P:Program} {ops:Array Oper} {o:Oper} {a:Act} {w:World} {K:Act→World→Prop} {Q:Exit→Act→World→Prop} {F:Prop} (hgd:o.guard=none) (t:TypeId) (parts:Array (Nat×Operand)) (ho:o.op= .build t parts)
  (cells:Array Value) (hf:P.built t (parts.map fun (i,x)=>(i,a.eval x)).toList=some cells) (h:K (a.put o.dst (.agg cells)) w):
  if Region.wanted o (yielded ops a.tmps)=true then Oper.wp P o a w K Q else F:=by
 have hw:Region.wanted o (yielded ops a.tmps)=true:=by simp [Region.wanted,hgd]
 rw [if_pos hw];exact wp_build t parts ho (by rw [hf];rfl) (by rw [hf];exact h)
theorem bg {P:Program} {ops:Array Oper} {o:Oper} {a:Act} {w:World} {K:Act→World→Prop} {Q:Exit→Act→World→Prop} {F:Prop} (hgd:o.guard=none) (ty:TypeId) (x y:Operand) (ho:o.op= .store ty x y)
  {g:Nat} {t:TypeId} {old:Array Value} (hg:Blk w g t old) (cells:Array Value) (hx:a.eval x= .pointer (some ⟨g,0,none⟩)) (hy:a.eval y= .agg cells)
  (hi:(P.info? ty).map (·.size)=some cells.size) (hold:old.size=cells.size) (h1:cells.all (·.oneCell')=true) (h:K (a.put o.dst undef) (w.setRow g cells)):
  if Region.wanted o (yielded ops a.tmps)=true then Oper.wp P o a w K Q else F:=by
 have hw:Region.wanted o (yielded ops a.tmps)=true:=by simp [Region.wanted,hgd]
 rw [if_pos hw];exact wp_store_row ty x y ho g cells hx hy t old hg hi hold h1 h
open Go
section
variable {P:Program} {ops:Array Oper} {Q:Exit→Act→World→Prop} {md:Region.Mode} {S:World→Prop}
def pE (md:Region.Mode) (ops:Array Oper):Nat→Nat→Nat→Bool
 | 0,r,j=>r == j
 | f+1,r,j=>r == j || ((ops[j]?).map fun o=>o.after.toList.any fun e=>Region.binds md e && pE md ops f r e.on).getD false
def xz (md:Region.Mode) (ops:Array Oper) (p:Nat→Bool) (j:Nat):Bool:=((ops[j]?).map fun o=>o.after.toList.all fun e=> !Region.binds md e || p e.on).getD false
def xA (md:Region.Mode) (ops:Array Oper) (listed:Array Bool) (rem:List Nat):Bool:=
 listed.size == ops.size && rem.all (fun i=>decide (i < ops.size) && !listed.getD i true) &&
 (List.range ops.size).all (fun i=> !listed.getD i false || xz md ops (fun k=>listed.getD k false) i) &&
 rem.all (fun i=>xz md ops (fun k=>decide (k < i) && (listed.getD k false || rem.contains k)) i) &&
 (List.range ops.size).all (fun j=>listed.getD j false || rem.contains j || rem.all (fun r=>pE md ops 8 r j)) && decide rem.Nodup
theorem nz {p:Nat→Bool} {j:Nat} (h:xz md ops p j=true):∃ o,ops[j]? =some o∧∀ e∈o.after,Region.binds md e=true→p e.on=true:=by
 unfold xz at h;cases ho:ops[j]? with
 | none=>rw [ho] at h;cases h
 | some o=>
  rw [ho] at h;refine ⟨o,rfl,fun e he hb=>?_⟩;have h1:=List.all_eq_true.1 h e (Array.mem_toList_iff.2 he);rw [hb] at h1;simpa using h1
theorem qQ {listed:Array Bool} (hc:∀ i,listed.getD i false=true→∃ o,ops[i]? =some o∧∀ e∈o.after,Region.binds md e=true→listed.getD e.on false=true):
  ∀ (f r j:Nat),pE md ops f r j=true→listed.getD j false=true→listed.getD r false=true:=by
 intro f;induction f with
 | zero=>intro r j h hj;have:=eq_of_beq h;subst this;exact hj
 | succ f ih=>
  intro r j h hj;unfold pE at h;rcases Bool.or_eq_true_iff.1 h with h | h
  · have:=eq_of_beq h;subst this;exact hj
  · obtain ⟨o,ho,hall⟩:=hc j hj;rw [ho] at h;obtain ⟨e,he,hb⟩:=List.any_eq_true.1 h;obtain ⟨hb1,hb2⟩:=Bool.and_eq_true_iff.1 hb;exact ih r e.on hb2 (hall e (Array.mem_toList_iff.1 he) hb1)
theorem uj {listed:Array Bool} (hc:∀ i,listed.getD i false=true→∃ o,ops[i]? =some o∧∀ e∈o.after,Region.binds md e=true→listed.getD e.on false=true)
   {r j:Nat} (hne:r≠j) (hr:pE md ops 8 r j=true) {o:Oper} (ho:ops[j]? =some o) (hall:∀ e∈o.after,Region.binds md e=true→listed.getD e.on false=true):listed.getD r false=true:=by
 unfold pE at hr;rcases Bool.or_eq_true_iff.1 hr with h | h
 · exact absurd (eq_of_beq h) hne
 · rw [ho] at h;obtain ⟨e,he,hb⟩:=List.any_eq_true.1 h;obtain ⟨hb1,hb2⟩:=Bool.and_eq_true_iff.1 hb;exact qQ hc 7 r e.on hb2 (hall e (Array.mem_toList_iff.1 he) hb1)
theorem mr (l:Array Bool) (i j:Nat) (d:Bool):(l.setIfInBounds i true).getD j d=if i=j∧i < l.size then true else l.getD j d:=by
 simp only [Array.getD_eq_getD_getElem?,Array.getElem?_setIfInBounds];by_cases h:i=j
 · subst h;by_cases h2:i < l.size
   · simp [h2]
   · simp [h2]
 · simp [h]
theorem yu (rem:List Nat) (l:Array Bool) (j:Nat):(rem.foldl (fun l i=>l.setIfInBounds i true) l)[j]? =if j∈rem∧j < l.size then some true else l[j]? :=by
 induction rem generalizing l with
 | nil=>simp
 | cons x rem ih=>
  rw [List.foldl_cons,ih,Array.size_setIfInBounds,Array.getElem?_setIfInBounds];by_cases h1:j < l.size
  · by_cases h2:j∈rem
    · simp [h1,h2]
    · by_cases h3:x=j
      · subst h3;simp [h1,h2]
      · simp [h1,h2,h3,Ne.symm h3]
  · by_cases h3:x=j
    · subst h3;simp [h1]
    · simp [h1,h3]
theorem vM (rem:List Nat) (J:World→Prop) (V:Nat→Value→World→Prop) (A:(Nat→Value)→Act) (cK:Array Bool) (fuel' qR:Nat) (hfu:qR=fuel' +rem.length)
  (hok:xA md ops cK rem=true)
  (hput:∀ i o u v,ops[i]? =some o→i∈rem→(A u).put o.dst v=A (fun j=>if j=i then v else u j))
  (hstep:∀ i o u w,ops[i]? =some o→i∈rem→S w→J w→(∀ e∈o.after,Region.binds md e=true→e.on∈rem→V e.on (u e.on) w)→
    wpOp P ops Q i (fun a' w' =>∃ v,a' =(A u).put o.dst v∧V i v w' ∧S w' ∧J w' ∧∀ j∈rem,∀ x,V j x w→V j x w') (A u) w)
  (u0:Nat→Value) (w:World) (hS:S w) (hJ:J w)
  (hend:∀ u w,S w→J w→(∀ i∈rem,V i (u i) w)→wpAnyH P md ops Q S fuel' (rem.foldl (fun l i=>l.setIfInBounds i true) cK) (A u) w):
  wpAnyH P md ops Q S qR cK (A u0) w:=by
 subst hfu;unfold xA at hok;simp only [Bool.and_eq_true,List.all_eq_true,List.mem_range,Bool.or_eq_true,Bool.not_eq_true',decide_eq_true_eq,beq_iff_eq,List.contains_iff_mem] at hok;obtain ⟨⟨⟨⟨⟨hsz,PT⟩,hcl⟩,hpre⟩,hoth⟩,hnd⟩:=hok
 suffices H:∀ (c:Nat) (left:List Nat) (listed:Array Bool) (u:Nat→Value) (w:World),left.Nodup→left.length=c→(∀ i,i∈left→i∈rem)→listed.size=ops.size→
    (∀ i,listed.getD i false=true→∃ o,ops[i]? =some o∧∀ e∈o.after,Region.binds md e=true→listed.getD e.on false=true)→
    (∀ i,i ∉ rem→listed[i]? =cK[i]?)→(∀ i∈rem,listed.getD i false= !left.contains i)→(∀ i∈rem,i ∉ left→V i (u i) w)→S w→J w→
    wpAnyH P md ops Q S (fuel' +c) listed (A u) w by
  refine H rem.length rem cK u0 w hnd rfl (fun _ h=>h) hsz ?_ (fun _ _=>rfl) ?_ (fun i h1 h2=>absurd h1 h2) hS hJ
  · intro i hi;have hlt:i < ops.size:=by
      rcases Nat.lt_or_ge i ops.size with h | h
      · exact h
      · rw [Array.getD_eq_getD_getElem?,Array.getElem?_eq_none (by omega)] at hi;cases hi
    rcases hcl i hlt with h | h
    · rw [h] at hi;cases hi
    · exact nz h
  · intro i hi;obtain ⟨h1,h2⟩:=PT i hi;rw [show rem.contains i=true from by simpa using hi];have h3:i < cK.size:=(by omega);simp only [Array.getD_eq_getD_getElem?,Array.getElem?_eq_getElem h3,Option.getD_some] at h2 ⊢;simpa using h2
 intro c;induction c with
 | zero=>
  intro left listed u w _ hlen _ hls _ hout hin hV hS hJ;have hl:left= []:=List.eq_nil_of_length_eq_zero hlen;subst hl;have he:listed=rem.foldl (fun l i=>l.setIfInBounds i true) cK:=by
    apply Array.ext_getElem?;intro i;rw [yu];by_cases hi:i∈rem
    · have h1:=(PT i hi).1;have h2:=hin i hi;have h3:i < listed.size:=(by omega);rw [if_pos ⟨hi,by omega⟩];simp only [Array.getD_eq_getD_getElem?,Array.getElem?_eq_getElem h3,Option.getD_some] at h2 ⊢;rw [h2];rfl
    · rw [if_neg (fun h=>hi h.1)];exact hout i hi
  subst he;exact hend u w hS hJ (fun i hi=>hV i hi (by simp))
 | succ c ih=>
  intro left listed u w hnd hlen hsub hls hcl' hout hin hV hS hJ;have hmin:∃ i,i∈left∧∀ k∈left,i≤k:=by
    have:left≠ []:=(by intro e;subst e;cases hlen);clear hlen hnd hsub hV hin;induction left with
    | nil=>exact absurd rfl this
    | cons x l ih=>
      by_cases hl:l= []
      · subst hl;exact ⟨x,List.mem_cons_self ..,fun k hk=>by rw [List.mem_singleton] at hk;omega⟩
      · obtain ⟨i,h1,h2⟩:=ih hl;by_cases hx:x≤i
        · exact ⟨x,List.mem_cons_self ..,fun k hk=>by rcases List.mem_cons.1 hk with rfl | hk;exact Nat.le_refl _;exact Nat.le_trans hx (h2 k hk)⟩
        · exact ⟨i,List.mem_cons_of_mem _ h1,fun k hk=>by rcases List.mem_cons.1 hk with rfl | hk;omega;exact h2 k hk⟩
  have hun:∀ i∈left,listed.getD i true=false:=fun i hi=>by
    have h1:=hin i (hsub i hi);have h3:i < listed.size:=(by have:=(PT i (hsub i hi)).1;omega);rw [show left.contains i=true from by simpa using hi] at h1;simp only [Array.getD_eq_getD_getElem?,Array.getElem?_eq_getElem h3,Option.getD_some] at h1 ⊢;rw [h1];rfl
  have LC:∃ i,i∈Region.ready md ops listed:=by
    obtain ⟨i,hi,hm⟩:=hmin;obtain ⟨o,ho,hp⟩:=nz (hpre i (hsub i hi));refine ⟨i,mem_ready.2 ⟨hun i hi,o,ho,fun e he hb=>?_⟩⟩;have h1:=hp e he hb;simp only [Bool.and_eq_true,decide_eq_true_eq,Bool.or_eq_true,List.contains_iff_mem] at h1;obtain ⟨hlt,h1⟩:=h1;by_cases hr:e.on∈rem
    · rw [hin _ hr];have:e.on ∉ left:=fun h=>by have:=hm _ h;omega
      simpa using this
    · rcases h1 with h1 | h1
      · rw [Array.getD_eq_getD_getElem?,hout _ hr, ← Array.getD_eq_getD_getElem?];exact h1
      · exact absurd h1 hr
  refine ⟨fun h=>?_,fun i hi=>?_⟩
  · obtain ⟨i,hi⟩:=LC;rw [h] at hi;cases hi
  · obtain ⟨Rv,o,ho,hall⟩:=mem_ready.1 hi;have hlt:i < ops.size:=(Array.getElem?_eq_some_iff.1 ho).1;have hil:i < listed.size:=(by omega);have Rw:listed.getD i false=false:=by
      simp only [Array.getD_eq_getD_getElem?,Array.getElem?_eq_getElem hil,Option.getD_some] at Rv ⊢;exact Rv
    by_cases hir:i∈rem
    · have LD:i∈left:=by
        have h1:=hin i hir;rw [Rw] at h1;simpa using h1.symm
      refine wpOp_mono ?_ (hstep i o u w ho hir hS hJ (fun e he hb hr=>hV _ hr ?_))
      · rintro a' w' ⟨v,rfl,hv,hS',hJ',hk⟩;refine ⟨hS',?_⟩;rw [hput i o u v ho hir];refine ih (left.erase i) (listed.setIfInBounds i true) _ w' (hnd.erase i) (by rw [List.length_erase_of_mem LD,hlen];rfl) (fun k hk' =>hsub k (List.mem_of_mem_erase hk')) (by rw [Array.size_setIfInBounds];exact hls) ?_ ?_ ?_ ?_ hS' hJ'
        · intro k hkk;rw [mr] at hkk;split at hkk
          · rename_i h;obtain ⟨rfl,_⟩:=h;exact ⟨o,ho,fun e he hb=>by rw [mr];split;rfl;exact hall e he hb⟩
          · obtain ⟨o',ho',h'⟩:=hcl' k hkk;exact ⟨o',ho',fun e he hb=>by rw [mr];split;rfl;exact h' e he hb⟩
        · intro k hkr;rw [Array.getElem?_setIfInBounds_ne (fun e=>hkr (by rw [← e];exact hir))];exact hout k hkr
        · intro k hkr;rw [mr];by_cases hik:i=k
          · subst hik;rw [if_pos ⟨rfl,hil⟩];have:i ∉ left.erase i:=fun h=>by
              have:=(List.Nodup.mem_erase_iff hnd).1 h;exact this.1 rfl
            simp [this]
          · rw [if_neg (fun h=>hik h.1),hin k hkr];congr 1;have:k∈left.erase i↔k∈left:=List.mem_erase_of_ne (Ne.symm hik);by_cases hkl:k∈left
            · simp [hkl,this]
            · simp [hkl,this]
        · intro k hkr hkl;by_cases hik:k=i
          · subst hik;simp only [if_true];exact hv
          · simp only [hik,if_false];refine hk k hkr _ (hV k hkr (fun h=>hkl ((List.mem_erase_of_ne hik).2 h)))
      · have h1:=hall e he hb;rw [hin _ hr] at h1;simpa using h1
    · exfalso;obtain ⟨r,hr⟩:∃ r,r∈left:=(by obtain ⟨r,hr,_⟩:=hmin;exact ⟨r,hr⟩);have h0:cK.getD i false=false:=by
        rw [Array.getD_eq_getD_getElem?, ← hout i hir, ← Array.getD_eq_getD_getElem?];exact Rw
      rcases hoth i hlt with (h1 | h1) | h1
      · rw [h0] at h1;cases h1
      · exact hir h1
      · have h2:=uj hcl' (fun e=>hir (by rw [← e];exact hsub r hr)) (h1 r (hsub r hr)) ho hall;rw [hin r (hsub r hr),show left.contains r=true from by simpa using hr] at h2;cases h2
end
section
variable {P:Program} {ops:Array Oper} {Q:Exit→Act→World→Prop} {md:Region.Mode} {S J:World→Prop} {V:Nat→Value→World→Prop} {A:(Nat→Value)→Act} {G:World→World→Prop} {all:List Nat}
def BB (md:Region.Mode) (o:Oper) (j:Nat):Bool:=o.after.toList.any fun e=>Region.binds md e && e.on == j
def LF (ops:Array Oper) (A:(Nat→Value)→Act) (rem:List Nat):Prop:=∀ i∈rem,∀ o,ops[i]? =some o→∀ u v,(A u).put o.dst v=A (fun j=>if j=i then v else u j)
def bf (P:Program) (ops:Array Oper) (Q:Exit→Act→World→Prop) (md:Region.Mode) (S:World→Prop) (J:World→Prop) (V:Nat→Value→World→Prop) (A:(Nat→Value)→Act) (G:World→World→Prop) (all rem:List Nat):Prop:=
 ∀ i∈rem,∀ o,ops[i]? =some o→∀ u w,S w→J w→(∀ j,all.contains j=true→BB md o j=true→V j (u j) w)→∀ K:Act→World→Prop,Shut (∀ v a' w',a' =(A u).put o.dst v→V i v w' →G w w' →K a' w')→
  if Region.wanted o (yielded ops (A u).tmps)=true then Oper.wp P o (A u) w K Q else K ((A u).put o.dst undef) w
theorem bf.nil:bf P ops Q md S J V A G all []:=fun _ h=>by cases h
theorem bf.cons {i:Nat} {o:Oper} {rem:List Nat} (ho:ops[i]? =some o)
   (h:∀ u w,S w→J w→(∀ j,all.contains j=true→BB md o j=true→V j (u j) w)→∀ K:Act→World→Prop,Shut (∀ v a' w',a' =(A u).put o.dst v→V i v w' →G w w' →K a' w')→
    if Region.wanted o (yielded ops (A u).tmps)=true then Oper.wp P o (A u) w K Q else K ((A u).put o.dst undef) w)
   (t:bf P ops Q md S J V A G all rem):bf P ops Q md S J V A G all (i :: rem):=fun k hk o' ho' =>by
 rcases List.mem_cons.1 hk with rfl | hk
 · rw [ho] at ho';injection ho' with ho';subst ho';exact h
 · exact t k hk o' ho'
theorem vN (rem:List Nat) (J:World→Prop) (V:Nat→Value→World→Prop) (A:(Nat→Value)→Act) (G:World→World→Prop) {cK:Array Bool} (fuel' :Nat) {qR:Nat} (hfu:qR=fuel' +rem.length)
  (hok:xA md ops cK rem=true) (hG:∀ w w',G w w' →(S w→S w')∧(J w→J w')∧∀ j x,V j x w→V j x w') (hput:LF ops A rem) (hstep:bf P ops Q md S J V A G rem rem)
  {a:Act} (u0:Nat→Value) (ha:a=A u0) {w:World} (hS:S w) (hJ:J w)
  (hend:∀ u w,S w→J w→(∀ i,rem.contains i=true→V i (u i) w)→wpAnyH P md ops Q S fuel' (rem.foldl (fun l i=>l.setIfInBounds i true) cK) (A u) w):
  wpAnyH P md ops Q S qR cK a w:=by
 subst ha;refine vM rem J V A cK fuel' qR hfu hok (fun i o u v ho hi=>hput i hi o ho u v) (fun i o u w ho hi hS hJ hpre=>?_) u0 w hS hJ (fun u w hS hJ hV=>hend u w hS hJ (fun i hi=>hV i (by simpa using hi)));refine wpOp_step ho (fun K hK=>hstep i hi o ho u w hS hJ (fun j hj hw=>?_) K (fun v a' w' h0 h1 h3=>hK _ _ ⟨v,h0,h1,(hG w w' h3).1 hS,(hG w w' h3).2.1 hJ,fun j _ x hx=>(hG w w' h3).2.2 j x hx⟩));unfold BB at hw;obtain ⟨e,he,hb⟩:=List.any_eq_true.1 hw;obtain ⟨hb1,hb2⟩:=Bool.and_eq_true_iff.1 hb;have:=eq_of_beq hb2;subst this;exact hpre e (Array.mem_toList_iff.1 he) hb1 (by simpa using hj)
def Rx (u:Nat→Value) (k:Nat) (x:Value) (j:Nat):Value:=if j=k then x else u j
theorem dQ {u:Nat→Value} {k:Nat} {x:Value} (h:u k=x):Rx u k x=u:=by
 funext j;unfold Rx;split
 · rename_i e;rw [e];exact h.symm
 · rfl
def bL (a:Act) (ds:List (Nat×Tmp)) (u:Nat→Value):Act:=ds.foldl (fun a p=>a.put (some p.2) (u p.1)) a
theorem dn (a:Act) (p:Nat×Tmp) (ds:List (Nat×Tmp)) (u:Nat→Value):bL a (p :: ds) u=bL (a.put (some p.2) (u p.1)) ds u:=rfl
theorem uk (d:Tmp) (v:Value):∀ (ds:List (Nat×Tmp)) (a:Act) (u:Nat→Value),(∀ p∈ds,p.2≠d)→bL (a.put (some d) v) ds u=(bL a ds u).put (some d) v
 | [],_,_,_=>rfl
 | p :: ds,a,u,h=>by
  rw [dn,dn, ← uk d v ds _ u (fun q hq=>h q (List.mem_cons_of_mem _ hq)),Act.put_comm];intro e he;injection he with he;subst he;intro h2;injection h2 with h2;exact h p (List.mem_cons_self ..) h2
theorem jP:∀ (ds:List (Nat×Tmp)) (a:Act) (u u' :Nat→Value),(∀ p∈ds,u p.1=u' p.1)→bL a ds u=bL a ds u'
 | [],_,_,_,_=>rfl
 | p :: ds,a,u,u',h=>by
  rw [dn,dn,h p (List.mem_cons_self ..)];exact jP ds _ u u' (fun q hq=>h q (List.mem_cons_of_mem _ hq))
theorem BC (a:Act) (d:Tmp) (v v' :Value):(a.put (some d) v).put (some d) v' =a.put (some d) v' :=by
 simp [Act.put]
theorem um (i:Nat) (d:Tmp) (v:Value):∀ (ds:List (Nat×Tmp)) (a:Act) (u:Nat→Value),(ds.map (·.1)).Nodup→(ds.map (·.2)).Nodup→(i,d)∈ds→(bL a ds u).put (some d) v=bL a ds (fun j=>if j=i then v else u j)
 | [],_,_,_,_,h=>by cases h
 | p :: ds,a,u,h1,h2,h=>by
  rw [List.map_cons,List.nodup_cons] at h1 h2;rcases List.mem_cons.1 h with h | h
  · subst h;rw [dn,dn, ← uk d v ds _ u (fun q hq e=>h2.1 (List.mem_map.2 ⟨q,hq,e⟩)),BC,if_pos rfl];exact jP ds _ _ _ (fun q hq=>by rw [if_neg (fun e=>h1.1 (List.mem_map.2 ⟨q,hq,e⟩))])
  · have hne:p.1≠i:=fun e=>h1.1 (List.mem_map.2 ⟨(i,d),h,e.symm⟩);rw [dn,dn,if_neg hne];exact um i d v ds _ u h1.2 h2.2 h
theorem EH (a:Act) (d:Tmp):a.put (some d) (a.tmps.getD d undef)=a:=by
 obtain ⟨ts,ds⟩:=a;simp only [Act.put];congr 1;apply Array.ext_getElem?;intro k;rw [Array.getElem?_setIfInBounds];by_cases h:d=k
 · subst h;rw [if_pos rfl];by_cases h2:d < ts.size
   · rw [if_pos h2,Array.getD_eq_getD_getElem?,Array.getElem?_eq_getElem h2];rfl
   · rw [if_neg h2,Array.getElem?_eq_none (Nat.le_of_not_lt h2)]
 · rw [if_neg h]
def Ry (a:Act) (ds:List (Nat×Tmp)) (i:Nat):Value:=match ds.find? (fun p=>p.1 == i) with | some p=>a.tmps.getD p.2 undef | none=>undef
theorem pF (a:Act) (u:Nat→Value):∀ ds:List (Nat×Tmp),(∀ p∈ds,u p.1=a.tmps.getD p.2 undef)→bL a ds u=a
 | [],_=>rfl
 | p :: ds,h=>by
  rw [dn,h p (List.mem_cons_self ..),EH];exact pF a u ds (fun q hq=>h q (List.mem_cons_of_mem _ hq))
theorem pG:∀ (ds:List (Nat×Tmp)),(ds.map (·.1)).Nodup→∀ p∈ds,ds.find? (fun q=>q.1 == p.1)=some p
 | [],_,_,h=>by cases h
 | x :: ds,h1,p,h=>by
  rw [List.map_cons,List.nodup_cons] at h1;rcases List.mem_cons.1 h with h | h
  · subst h;simp
  · have hne:(x.1 == p.1)=false:=by
     simp only [beq_eq_false_iff_ne,ne_eq];exact fun e=>h1.1 (List.mem_map.2 ⟨p,h,e.symm⟩)
    rw [List.find?_cons,hne];exact pG ds h1.2 p h
def EI (ops:Array Oper) (rem:List Nat) (ds:List (Nat×Tmp)):Bool:=
 rem.all (fun i=>match ops[i]? with | some o=>(match o.dst with | some d=>ds.contains (i,d) | none=>ds.all (fun p=>p.1 != i)) | none=>true) && decide (ds.map (·.1)).Nodup && decide (ds.map (·.2)).Nodup
theorem yw {rem:List Nat} {ds:List (Nat×Tmp)} (h:EI ops rem ds=true) (a:Act):LF ops (bL a ds) rem:=fun i hi o ho u v=>by
 unfold EI at h;simp only [Bool.and_eq_true,decide_eq_true_eq] at h;obtain ⟨⟨h1,h2⟩,h3⟩:=h;have h4:=List.all_eq_true.1 h1 i hi;rw [ho] at h4;simp only at h4;cases hd:o.dst with
 | some d=>
  rw [hd] at h4;exact um i d v ds a u h2 h3 (by simpa using h4)
 | none=>
  rw [hd] at h4;refine jP ds a _ _ (fun p hp=>?_);have h5:=List.all_eq_true.1 h4 p hp;rw [if_neg (by simpa using h5)]
theorem gT (rem:List Nat) (ds:List (Nat×Tmp)) (J:World→Prop) (V:Nat→Value→World→Prop) (G:World→World→Prop) {cK:Array Bool} (fuel' :Nat) {qR:Nat} {a:Act} {w:World} (hS:S w) (hJ:J w) (hfu:qR=fuel' +rem.length)
  (hok:xA md ops cK rem=true) (hds:EI ops rem ds=true) (hG:∀ w w',G w w' →(S w→S w')∧(J w→J w')∧∀ j x,V j x w→V j x w') (hstep:bf P ops Q md S J V (bL a ds) G rem rem)
  (hend:∀ u w,S w→J w→(∀ i,rem.contains i=true→V i (u i) w)→wpAnyH P md ops Q S fuel' (rem.foldl (fun l i=>l.setIfInBounds i true) cK) (bL a ds u) w):
  wpAnyH P md ops Q S qR cK a w:=by
 refine vN rem J V (bL a ds) G fuel' hfu hok hG (yw hds a) hstep (Ry a ds) (pF a _ ds (fun p hp=>?_)).symm hS hJ hend;have h1:(ds.map (·.1)).Nodup:=by
  unfold EI at hds;simp only [Bool.and_eq_true,decide_eq_true_eq] at hds;exact hds.1.2
 unfold Ry;rw [pG ds h1 p hp]
end
open Go.ChangeShapes Go.WideShapes Go.RowKit Go.Joins Go.Deep
theorem cells_of_row (w:World) (i:Nat) (hi:i < (qI.map (nI.cells .u8)).length) (m:Nat) (cs' :List Value) (d:DataW Unit) (q:List MemPlace) (ds:List (DataW Unit)) (hds:DataW.agg ds=Rows.laid_kaudit_call_calls) (hd:ds[i]? =some d) (ht:DataW.trod (fun _=>()) Tryz.prog w 0 (fun _=>true) false m 237 cs' =some (d,q)):cs' =(qI.map (nI.cells .u8))[i]:=by
 have H:∀ k:Fin 22,ds[k.val]? =some d→cs' =(qI.map (nI.cells .u8))[k.val]'(by have:(qI.map (nI.cells .u8)).length=22:=rfl;omega):=by
  unfold Rows.laid_kaudit_call_calls at hds;injection hds with hds;subst hds;intro k hd
  match k with
  | ⟨0,_⟩=>exact aK Tryz.underlying237 (by kernel_rfl) (by kernel_rfl) Tryz.underlying9 Tryz.underlying5 Tryz.underlying5 Tryz.underlying5 Tryz.underlying5 (by cases hd;exact ht)
  | ⟨1,_⟩=>exact aK Tryz.underlying237 (by kernel_rfl) (by kernel_rfl) Tryz.underlying9 Tryz.underlying5 Tryz.underlying5 Tryz.underlying5 Tryz.underlying5 (by cases hd;exact ht)
  | ⟨2,_⟩=>exact aK Tryz.underlying237 (by kernel_rfl) (by kernel_rfl) Tryz.underlying9 Tryz.underlying5 Tryz.underlying5 Tryz.underlying5 Tryz.underlying5 (by cases hd;exact ht)
  | ⟨3,_⟩=>exact aK Tryz.underlying237 (by kernel_rfl) (by kernel_rfl) Tryz.underlying9 Tryz.underlying5 Tryz.underlying5 Tryz.underlying5 Tryz.underlying5 (by cases hd;exact ht)
  | ⟨4,_⟩=>exact aK Tryz.underlying237 (by kernel_rfl) (by kernel_rfl) Tryz.underlying9 Tryz.underlying5 Tryz.underlying5 Tryz.underlying5 Tryz.underlying5 (by cases hd;exact ht)
  | ⟨5,_⟩=>exact aK Tryz.underlying237 (by kernel_rfl) (by kernel_rfl) Tryz.underlying9 Tryz.underlying5 Tryz.underlying5 Tryz.underlying5 Tryz.underlying5 (by cases hd;exact ht)
  | ⟨6,_⟩=>exact aK Tryz.underlying237 (by kernel_rfl) (by kernel_rfl) Tryz.underlying9 Tryz.underlying5 Tryz.underlying5 Tryz.underlying5 Tryz.underlying5 (by cases hd;exact ht)
  | ⟨7,_⟩=>exact aK Tryz.underlying237 (by kernel_rfl) (by kernel_rfl) Tryz.underlying9 Tryz.underlying5 Tryz.underlying5 Tryz.underlying5 Tryz.underlying5 (by cases hd;exact ht)
  | ⟨8,_⟩=>exact aK Tryz.underlying237 (by kernel_rfl) (by kernel_rfl) Tryz.underlying9 Tryz.underlying5 Tryz.underlying5 Tryz.underlying5 Tryz.underlying5 (by cases hd;exact ht)
  | ⟨9,_⟩=>exact aK Tryz.underlying237 (by kernel_rfl) (by kernel_rfl) Tryz.underlying9 Tryz.underlying5 Tryz.underlying5 Tryz.underlying5 Tryz.underlying5 (by cases hd;exact ht)
  | ⟨10,_⟩=>exact aK Tryz.underlying237 (by kernel_rfl) (by kernel_rfl) Tryz.underlying9 Tryz.underlying5 Tryz.underlying5 Tryz.underlying5 Tryz.underlying5 (by cases hd;exact ht)
  | ⟨11,_⟩=>exact aK Tryz.underlying237 (by kernel_rfl) (by kernel_rfl) Tryz.underlying9 Tryz.underlying5 Tryz.underlying5 Tryz.underlying5 Tryz.underlying5 (by cases hd;exact ht)
  | ⟨12,_⟩=>exact aK Tryz.underlying237 (by kernel_rfl) (by kernel_rfl) Tryz.underlying9 Tryz.underlying5 Tryz.underlying5 Tryz.underlying5 Tryz.underlying5 (by cases hd;exact ht)
  | ⟨13,_⟩=>exact aK Tryz.underlying237 (by kernel_rfl) (by kernel_rfl) Tryz.underlying9 Tryz.underlying5 Tryz.underlying5 Tryz.underlying5 Tryz.underlying5 (by cases hd;exact ht)
  | ⟨14,_⟩=>exact aK Tryz.underlying237 (by kernel_rfl) (by kernel_rfl) Tryz.underlying9 Tryz.underlying5 Tryz.underlying5 Tryz.underlying5 Tryz.underlying5 (by cases hd;exact ht)
  | ⟨15,_⟩=>exact aK Tryz.underlying237 (by kernel_rfl) (by kernel_rfl) Tryz.underlying9 Tryz.underlying5 Tryz.underlying5 Tryz.underlying5 Tryz.underlying5 (by cases hd;exact ht)
  | ⟨16,_⟩=>exact aK Tryz.underlying237 (by kernel_rfl) (by kernel_rfl) Tryz.underlying9 Tryz.underlying5 Tryz.underlying5 Tryz.underlying5 Tryz.underlying5 (by cases hd;exact ht)
  | ⟨17,_⟩=>exact aK Tryz.underlying237 (by kernel_rfl) (by kernel_rfl) Tryz.underlying9 Tryz.underlying5 Tryz.underlying5 Tryz.underlying5 Tryz.underlying5 (by cases hd;exact ht)
  | ⟨18,_⟩=>exact aK Tryz.underlying237 (by kernel_rfl) (by kernel_rfl) Tryz.underlying9 Tryz.underlying5 Tryz.underlying5 Tryz.underlying5 Tryz.underlying5 (by cases hd;exact ht)
  | ⟨19,_⟩=>exact aK Tryz.underlying237 (by kernel_rfl) (by kernel_rfl) Tryz.underlying9 Tryz.underlying5 Tryz.underlying5 Tryz.underlying5 Tryz.underlying5 (by cases hd;exact ht)
  | ⟨20,_⟩=>exact aK Tryz.underlying237 (by kernel_rfl) (by kernel_rfl) Tryz.underlying9 Tryz.underlying5 Tryz.underlying5 Tryz.underlying5 Tryz.underlying5 (by cases hd;exact ht)
  | ⟨21,_⟩=>exact aK Tryz.underlying237 (by kernel_rfl) (by kernel_rfl) Tryz.underlying9 Tryz.underlying5 Tryz.underlying5 Tryz.underlying5 Tryz.underlying5 (by cases hd;exact ht)
  | ⟨k+22,h⟩=>exact absurd h (by omega)
 exact H ⟨i,hi⟩ hd
theorem calls_of_laid {W : World} {laid : List (String × DataW Unit)} (i : Nat) (hpl : (laid.all fun x => x.2.handleName?.isNone) = true) (h : laidMetH Tryz.prog laid W) (hi : laid[i]? = some ("kaudit/call.calls", Rows.laid_kaudit_call_calls)) : Calls10 W :=
 sO (t:=238) (e:=237) (c:=5) (n:=22) (L:=qI.map (nI.cells .u8)) i hpl h hi rfl (by kernel_rfl) Tryz.underlying238 (by kernel_rfl) (by kernel_rfl) rfl rfl (fun w i hi m cs' d q hd ht=>cells_of_row w i hi m cs' d q _ rfl hd ht)
end Go.Proofs.YtollifnnpihfdaaGreatDoor
