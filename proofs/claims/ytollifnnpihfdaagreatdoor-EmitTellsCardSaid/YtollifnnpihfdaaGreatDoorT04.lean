import Derived.Test.YtollifnnpihfdaaGreatDoorT03
import Derived.Deep.DeepCutAuto
import Derived.Deep.CutBlock
set_option maxRecDepth 100000
set_option maxHeartbeats 64000000
set_option linter.all false
namespace Go.Proofs.YtollifnnpihfdaaGreatDoor
open Go.RowKit
def aY (w:World) (base g:Nat) (b:Int):Prop:=base≤g∧∃ (A:Option Addr) (n c:Nat) (a:Int),w.heap[g]? =some (.cells #[.slice A n c, .int .i64 a] 111 (0,0))∧0≤a∧a≤b∧(n:Int)≤9223372036854775807∧
 ∀ k,k < n→∃ (ad:Addr) (z:Int),A=some ad∧ad.block < base∧w.cell? (ad.add k)=some (.int .i64 z)∧ -9223372036854775808≤z∧z≤9223372036854775807
theorem dz {w:World} {base g:Nat} {b:Int} (h:aY w base g b):g < w.heap.size:=by
 obtain ⟨_,A,n,c,a,hg,_⟩:=h;exact (Array.getElem?_eq_some_iff.1 hg).1
theorem aY.more {w:World} {base g:Nat} {b b' :Int} (h:aY w base g b) (hb:b≤b'):aY w base g b' :=by
 obtain ⟨h0,A,n,c,a,hg,ha,hab,hn,hl⟩:=h;exact ⟨h0,A,n,c,a,hg,ha,by omega,hn,hl⟩
theorem block_add (a:Addr) (n:Nat):(a.add n).block=a.block:=by unfold Addr.add;split <;> rfl
theorem aY.keep {w w' :World} {base g:Nat} {b:Int} (h:aY w base g b) (hg' :w'.heap[g]? =w.heap[g]?) (hk:∀ i,i < base→w'.heap[i]? =w.heap[i]?):aY w' base g b:=by
 obtain ⟨h0,A,n,c,a,hg,ha,hab,hn,hl⟩:=h;refine ⟨h0,A,n,c,a,hg'.trans hg,ha,hab,hn,fun k hk' =>?_⟩;obtain ⟨ad,z,e,hb,hc,hz⟩:=hl k hk';exact ⟨ad,z,e,hb,(World.cell?_of_block (by rw [block_add];exact hk _ hb)).trans hc,hz⟩
theorem aY.below {w w' :World} {base g:Nat} {b:Int} (h:aY w base g b) (hb:Below w.heap.size w w'):aY w' base g b:=
 h.keep (hb.block g (dz h)) fun i hi=>hb.block i (by have:=dz h;have:=h.1;omega)
theorem aY.grown {w w' :World} {base g:Nat} {b:Int} (h:aY w base g b) {row:Option Nat} (hg:w.grownBy w' row) (hr:∀ r,row=some r→base≤r∧r≠g):aY w' base g b:=
 h.keep (hg.block g (dz h) (fun e=>(hr g e.symm).2 rfl)) fun i hi=>hg.block i (by have:=dz h;have:=h.1;omega) (fun e=>by have:=(hr i e.symm).1;omega)
theorem aY.alloc {w:World} {base g:Nat} {b:Int} (h:aY w base g b) (o:Obj):aY (w.alloc o) base g b:=h.below ((Below.refl _ _).alloc (Nat.le_refl _) o)
theorem aY.drew {w:World} {base g:Nat} {b:Int} (h:aY w base g b):aY w.drew base g b:=h
theorem aY.setCell {w:World} {base g:Nat} {b:Int} (h:aY w base g b) {p:Addr} (hp:base≤p.block) (hne:p.block≠g) (u:Value):aY (w.setCell p u) base g b:=
 h.keep (Below.heap_setCell w p u g (Ne.symm hne)) fun i hi=>Below.heap_setCell w p u i (by omega)
theorem ll {a w:World} {row:Option Nat} (h:a.grownBy w row) (n:Nat):a.grownBy (w.drewN n) row:=⟨h.os,h.tape,h.output,h.size,h.block⟩
theorem bE {a w:World} {row:Option Nat} (h:a.grownBy w row) (o:Obj):a.grownBy (w.alloc o) row:=
 ⟨h.os,h.tape,h.output,Nat.le_trans h.size (by simp),fun i hi hne=>(Below.heap_alloc w o i (Nat.lt_of_lt_of_le hi h.size)).trans (h.block i hi hne)⟩
theorem aG {a w:World} {g:Nat} (h:a.grownBy w (some g)) {p:Addr} (hp:p.block=g∨a.heap.size≤p.block) (u:Value):a.grownBy (w.setCell p u) (some g):=
 ⟨h.os,h.tape,h.output,by simpa [World.setCell] using h.size,fun i hi hne=>(Below.heap_setCell w p u i (fun e=>by
  rcases hp with hp | hp
  · exact hne (by rw [e,hp])
  · omega)).trans (h.block i hi hne)⟩
theorem bF {a w w' :World} {row:Option Nat} (h:a.grownBy w row) (hb:Below w.heap.size w w'):a.grownBy w' row:=
 ⟨hb.os.trans h.os,hb.tape.trans h.tape,hb.output.trans h.output,Nat.le_trans h.size hb.size,fun i hi hne=>(hb.block i (Nat.lt_of_lt_of_le hi h.size)).trans (h.block i hi hne)⟩
theorem lq {B:Nat} {a w w' :World} {g:Nat} (h:Below B a w) (hg:w.grownBy w' (some g)) (hB:B≤w.heap.size) (hBg:B≤g):Below B a w' :=
 h.grown hg hB fun k hk=>by injection hk with hk;omega
def Ib (w:World) (base g:Nat) (b n:Int) (e:Ending) (w' :World):Prop:=∃ x:Int,e= .returned (.int .i64 x)∧0≤x∧x < n∧aY w' base g (b+1)∧w.grownBy w' (some g)
theorem Ak {w:World} {base g:Nat} {b:Int} (h0:base≤g) {A:Option Addr} {n c:Nat} {a:Int} (hg:w.heap[g]? =some (.cells #[.slice A n c, .int .i64 a] 111 (0,0))) (ha:0≤a) (hab:a≤b) (hn:(n:Int)≤9223372036854775807)
  (hl:∀ k,k < n→∃ (ad:Addr) (z:Int),A=some ad∧ad.block < base∧w.cell? (ad.add k)=some (.int .i64 z)∧ -9223372036854775808≤z∧z≤9223372036854775807):
  aY (w.setCell ⟨g,1,none⟩ (.int .i64 (a+1))) base g (b+1)∧w.grownBy (w.setCell ⟨g,1,none⟩ (.int .i64 (a+1))) (some g):=by
 refine ⟨⟨h0,A,n,c,a+1,heap_setCell_same w g 1 #[.slice A n c, .int .i64 a] _ (.int .i64 (a+1)) hg,by omega,by omega,hn,fun k hk=>?_⟩,aG (World.grownBy.refl w _) (.inl rfl) _⟩;obtain ⟨ad,z,e,hb,hc,hz⟩:=hl k hk;exact ⟨ad,z,e,hb,(World.cell?_of_block (by rw [block_add];exact Below.heap_setCell w ⟨g,1,none⟩ _ _ (by show ad.block≠g;omega))).trans hc,hz⟩
theorem Al (z n:Int) (hn:1≤n): -n < z.tmod n∧z.tmod n < n:=by
 have h1:=Int.tmod_lt_of_pos z (show 0 < n by omega);have h2: -n < z.tmod n:=by
  have:=Int.tmod_lt_of_pos (-z) (show 0 < n by omega);rw [Int.neg_tmod] at this;omega
 exact ⟨h2,h1⟩
theorem jM (w:World) (base g:Nat) (b n:Int) (h:aY w base g b) (hb:b≤1000000000000000) (hn1:1≤n) (hn2:n≤1000000000000000):
   Calls Tryz.prog 14 #[.pointer (some ⟨g,0,none⟩), .int .i64 n] w (Ib w base g b n):=by
 obtain ⟨h0,A,ln,c,a,hg,ha,hab,hln,hl⟩:=h;have GH:=Hd (Ak h0 hg ha hab hln hl);have q0:w.cell? ⟨g,0,none⟩=some (.slice A ln c):=cell_of_row w g 0 _ _ (0,0) hg;have q1:w.cell? ⟨g,1,none⟩=some (.int .i64 a):=cell_of_row w g 1 _ _ (0,0) hg;have qf:w.frozen? ⟨g,1,none⟩=false:=frozen_of_row w g 1 _ _ hg;have HG:=Hd (show (w.setCell ⟨g,1,none⟩ (.int .i64 (a+1))).heap[g]? =some (.cells #[.slice A ln c, .int .i64 (a+1)] 111 (0,0)) from heap_setCell_same w g 1 #[.slice A ln c, .int .i64 a] _ (.int .i64 (a+1)) hg);have hkb:a+1≤1000000000000001:=by omega
 have HL:=Hd hl;have HLN:=Hd hln;clear hg hl hln;by_cases hlt:a < (ln:Int)
 · obtain ⟨ad,z,hA,J5,hc,hz0,hz1⟩:=HL.o a.toNat (by omega);subst hA;have HC:=Hd (show (w.setCell ⟨g,1,none⟩ (.int .i64 (a+1))).cell? (ad.add a.toNat)=some (.int .i64 z) from
    (World.cell?_of_block (by rw [block_add];exact Below.heap_setCell w ⟨g,1,none⟩ _ _ (by show ad.block≠g;omega))).trans hc)
   clear hc HL;have d1:decide (a+1≤(ln:Int))=true:=(by simp;omega);have tb:=Hd (Al z n hn1);go_in;go_wp2_with fail;clear q0 q1 qf;generalize w.setCell ⟨g,1,none⟩ (.int .i64 (a+1))=w1 at *;have s0:w1.cell? ⟨g,0,none⟩=some (.slice (some ad) ln c):=cell_of_row w1 g 0 _ _ (0,0) HG.o;have s1:w1.cell? ⟨g,1,none⟩=some (.int .i64 (a+1)):=cell_of_row w1 g 1 _ _ (0,0) HG.o;have s2:=HC.o;go_quiet (fail);have w1' :IntKind.i64.wrap (a+1 - 1)=a:=(by rw [show a+1 - 1=a by omega];exact IntWalk.i64_in _ (by omega));go_wp2_with fail;go_quiet (fail);clear w1' s0 s1 s2 d1;obtain ⟨t1,t2⟩:=tb.o;go_wp2_with fail;all_goals
    go_ret;exact ⟨_,rfl,by omega,by omega,GH.o.1,ll GH.o.2 _⟩
 · have d1:decide (a+1≤(ln:Int))=false:=(by simp;omega);have d2:(0:Int)≤(a+1) * 7:=(by omega);have tb1:0≤((a+1) * 7) % n:=Int.emod_nonneg _ (by omega);have tb2:((a+1) * 7) % n < n:=Int.emod_lt_of_pos _ (by omega);clear HL;go_in;go_wp2_with fail;clear q0 q1 qf;generalize w.setCell ⟨g,1,none⟩ (.int .i64 (a+1))=w1 at *;have s0:w1.cell? ⟨g,0,none⟩=some (.slice A ln c):=cell_of_row w1 g 0 _ _ (0,0) HG.o;have s1:w1.cell? ⟨g,1,none⟩=some (.int .i64 (a+1)):=cell_of_row w1 g 1 _ _ (0,0) HG.o;go_quiet (fail);clear s0 s1 d1;go_wp2_with fail;go_ret;exact ⟨_,rfl,tb1,tb2,GH.o.1,ll GH.o.2 _⟩
theorem Aq (w:World) (A:Option Addr) (n c:Nat) (hn:(n:Int)≤9223372036854775807)
  (hl:∀ k,k < n→∃ (ad:Addr) (z:Int),A=some ad∧ad.block < w.heap.size∧w.cell? (ad.add k)=some (.int .i64 z)∧ -9223372036854775808≤z∧z≤9223372036854775807):
  Calls Tryz.prog 10 #[.slice A n c] w fun e w' =>e= .returned (.pointer (some ⟨w.heap.size,0,none⟩))∧aY w' w.heap.size w.heap.size 0∧Below w.heap.size w w' :=by
 have HL:=Hd hl;have HN:=Hd hn;clear hl hn;go_in
 go_wp2
 go_ret;refine ⟨rfl,⟨Nat.le_refl _,A,n,c,0,heap_alloc_new w _,by omega,by omega,HN.o,fun k hk=>?_⟩,(Below.refl _ _).alloc (Nat.le_refl _) _⟩;obtain ⟨ad,z,e,hb,hc,hz⟩:=HL.o k hk;exact ⟨ad,z,e,hb,(World.cell?_of_block (by rw [block_add];exact Below.heap_alloc w _ _ hb)).trans hc,hz⟩
def zx (cs:Array Value) (m:Nat):Bool:=cs.toList.all fun | .string x=>decide (x.size≤m) | _=>false
def intsIn (cs:Array Value) (lo hi:Int):Bool:=cs.toList.all fun | .int .i64 x=>decide (lo≤x) && decide (x≤hi) | _=>false
theorem sH {cs:Array Value} {m:Nat} (h:zx cs m=true) (k:Nat) (hk:k < cs.size):∃ x:ByteArray,cs[k]? =some (.string x)∧x.size≤m:=by
 have hm:cs[k]∈cs.toList:=Array.mem_toList_iff.2 (Array.getElem_mem hk);have:=List.all_eq_true.1 h _ hm;split at this
 · rename_i x e;exact ⟨x,by rw [Array.getElem?_eq_getElem hk,e],by simpa using this⟩
 · cases this
theorem sI {cs:Array Value} {lo hi:Int} (h:intsIn cs lo hi=true) (k:Nat) (hk:k < cs.size):∃ x:Int,cs[k]? =some (.int .i64 x)∧lo≤x∧x≤hi:=by
 have hm:cs[k]∈cs.toList:=Array.mem_toList_iff.2 (Array.getElem_mem hk);have:=List.all_eq_true.1 h _ hm;split at this
 · rename_i x e;simp at this;exact ⟨x,by rw [Array.getElem?_eq_getElem hk,e],this.1,this.2⟩
 · cases this
def Ar (w:World) (base g:Nat) (b:Int) (m:Nat) (e:Ending) (w' :World):Prop:=∃ x:ByteArray,e= .returned (.string x)∧x.size≤m∧aY w' base g b∧w.grownBy w' (some g)
def Dn (w:World) (base g:Nat) (b lo hi:Int) (e:Ending) (w' :World):Prop:=∃ x:Int,e= .returned (.int .i64 x)∧lo≤x∧x≤hi∧aY w' base g b∧w.grownBy w' (some g)
theorem nN {w w' :World} {g B:Nat} {cs:Array Value} {t:TypeId} {fr:Nat×Nat} (hg:w.grownBy w' (some g)) (hB:w.heap[B]? =some (.cells cs t fr)) (hne:B≠g) (k:Nat):w'.cell? ⟨B,k,none⟩=cs[k]? :=
 cell_of_row w' B k cs t fr ((hg.block B (Array.getElem?_eq_some_iff.1 hB).1 (fun e=>hne (by injection e))).trans hB)
theorem dU (w:World) (base g:Nat) (b lo hi:Int) (h:aY w base g b) (hb:b≤1000000000000000) (h1:lo≤hi) (h2: -1000000≤lo) (h3:hi≤1000000):
  Calls Tryz.prog 38 #[.pointer (some ⟨g,0,none⟩), .int .i64 lo, .int .i64 hi] w (Dn w base g (b+1) lo hi):=by
 have H:=Hd h;have HB:=Hd hb;clear h hb;go_in;go_wp2_with fail;refine (jM _ base g b _ H.o HB.o (by omega) (by omega)).mono ?_;rintro e w1 ⟨x,rfl,hx0,hx1,hs,hg⟩;have HS:=Hd hs;clear hs;go_wp2_with fail;go_ret;exact ⟨_,rfl,by omega,by omega,HS.o,hg⟩
theorem jT (w:World) (base g B:Nat) (b:Int) (n m:Nat) (cs:Array Value) (t:TypeId) (fr:Nat×Nat) (h:aY w base g b) (hb:b≤1000000000000000) (hB:w.heap[B]? =some (.cells cs t fr)) (hne:B≠g)
  (hn:cs.size=n) (h1:1≤n) (h2:n≤1000) (hall:zx cs m=true):
  Calls Tryz.prog 15 #[.pointer (some ⟨g,0,none⟩), .slice (some ⟨B,0,none⟩) n n] w (Ar w base g (b+1) m):=by
 have H:=Hd h;have HB:=Hd hb;have HBB:=Hd hB;have HN:=Hd hn;clear h hb hB hn;go_in;go_wp2_with fail;refine (jM _ base g b _ H.o HB.o (by omega) (by omega)).mono ?_;rintro e w1 ⟨x,rfl,hx0,hx1,hs,hg⟩;have HS:=Hd hs;clear hs;obtain ⟨k,rfl⟩:=Int.eq_ofNat_of_zero_le hx0;have hk:k < n:=by omega
 obtain ⟨y,hy,hym⟩:=sH hall k (by rw [HN.o];exact hk);have hc:=(nN hg HBB.o hne k).trans hy;clear hy;go_wp2_with fail;go_ret;exact ⟨_,rfl,hym,HS.o,hg⟩
theorem fO (w:World) (base g B:Nat) (b:Int) (n:Nat) (lo hi:Int) (cs:Array Value) (t:TypeId) (fr:Nat×Nat) (h:aY w base g b) (hb:b≤1000000000000000) (hB:w.heap[B]? =some (.cells cs t fr)) (hne:B≠g)
  (hn:cs.size=n) (h1:1≤n) (h2:n≤1000) (hall:intsIn cs lo hi=true):
  Calls Tryz.prog 61 #[.pointer (some ⟨g,0,none⟩), .slice (some ⟨B,0,none⟩) n n] w (Dn w base g (b+1) lo hi):=by
 have H:=Hd h;have HB:=Hd hb;have HBB:=Hd hB;have HN:=Hd hn;clear h hb hB hn;go_in;go_wp2_with fail;refine (jM _ base g b _ H.o HB.o (by omega) (by omega)).mono ?_;rintro e w1 ⟨x,rfl,hx0,hx1,hs,hg⟩;have HS:=Hd hs;clear hs;obtain ⟨k,rfl⟩:=Int.eq_ofNat_of_zero_le hx0;have hk:k < n:=by omega
 obtain ⟨y,hy,hy0,hy1⟩:=sI hall k (by rw [HN.o];exact hk);have hc:=(nN hg HBB.o hne k).trans hy;clear hy;go_wp2_with fail;go_ret;exact ⟨_,rfl,hy0,hy1,HS.o,hg⟩
structure El (α:Type) where
 C:α→List Value
 e:TypeId
 sl:TypeId
 sz:Nat
 bs:Nat
 len:∀ a,(C a).length=sz
 one:∀ a,∀ u∈C a,u.oneCell' =true
 pos:0 < sz
 small:bs≤1000
 hu:Tryz.prog.underlying sl=some (.slice e)
 info:∃ (i0:TypeInfo) (z:Value),Tryz.prog.info? e=some i0∧i0.zero=some z∧i0.size=sz∧i0.bytes=bs∧z.cells.size=sz
section
variable {α:Type} {E:El α} {w w' :World} {B B' base lo:Nat} {A:Option Addr} {v:Value} {L M:List α}
theorem El.flat (E:El α) (L:List α):(L.flatMap E.C).length=L.length * E.sz:=by
 induction L with
 | nil=>simp
 | cons a L ih=>rw [List.flatMap_cons,List.length_append,ih,E.len,List.length_cons,Nat.succ_mul];omega
theorem El.dV (E:El α):∀ (L:List α) (k:Nat) (hk:k < L.length) (j:Nat),j < E.sz→(L.flatMap E.C)[k * E.sz+j]? =(E.C (L[k]'hk))[j]?
 | [],k,hk,_,_=>by simp at hk
 | p :: L,0,_,j,hj=>by
  rw [List.flatMap_cons,List.getElem?_append_left (by rw [E.len];omega)];simp
 | p :: L,k+1,hk,j,hj=>by
  have ih:=E.dV L k (by simp at hk;omega) j hj;have e:(k+1) * E.sz+j=E.sz+(k * E.sz+j):=by rw [Nat.succ_mul];omega
  rw [List.flatMap_cons,e,List.getElem?_append_right (by rw [E.len];omega),E.len,show E.sz+(k * E.sz+j) - E.sz=k * E.sz+j by omega,ih];simp
def AtE (E:El α) (w:World) (B:Nat) (A:Option Addr) (L:List α):Prop:=∀ k (hk:k < L.length),∃ ad:Addr,A=some ad∧ad.block < B∧∀ j,j < E.sz→w.cell? ((ad.add (k * E.sz)).add j)=(E.C (L[k]'hk))[j]?
theorem ax (a:Addr) (n:Nat):(a.add n).block=a.block:=by unfold Addr.add;split <;> rfl
theorem AtE.keep (h:AtE E w B A L) (hb:Below B' w w') (hB:B≤B'):AtE E w' B A L:=fun k hk=>by
 obtain ⟨ad,e,hl,hc⟩:=h k hk;exact ⟨ad,e,hl,fun j hj=>(hb.cell (by rw [ax,ax];omega)).trans (hc j hj)⟩
theorem AtE.more (h:AtE E w B A L) (hB:B≤B'):AtE E w B' A L:=fun k hk=>by
 obtain ⟨ad,e,hl,hc⟩:=h k hk;exact ⟨ad,e,by omega,hc⟩
theorem AtE.below (h:AtE E w w.heap.size A L) (hb:Below w.heap.size w w'):AtE E w' w'.heap.size A L:=(h.keep hb (Nat.le_refl _)).more hb.size
theorem AtE.nil:AtE E w B A []:=fun k hk=>by simp at hk
def ay (E:El α) (w:World) (base:Nat) (v:Value) (L:List α):Prop:=w.ownsRow base E.e E.sz v L.length (L.flatMap E.C)
theorem ay.nil (w:World) (base:Nat):ay E w base (.slice none 0 0) []:=World.ownsRow_nil _ _ _ _
theorem ay.alloc (h:ay E w base v L) (o:Obj):ay E (w.alloc o) base v L:=World.ownsRow.alloc h o
theorem ay.ge (h:ay E w base v L):∀ r,v.ownBlock=some r→base≤r:=fun r hr=>(World.ownsRow.lt h r hr).1
theorem ay.lt (h:ay E w base v L):∀ r,v.ownBlock=some r→r < w.heap.size:=fun r hr=>(World.ownsRow.lt h r hr).2
theorem ay.below (h:ay E w base v L) (hb:Below w.heap.size w w'):ay E w' base v L:=
 World.ownsRow.kept (row:=none) h ⟨hb.os,hb.tape,hb.output,hb.size,fun i hi _=>hb.block i hi⟩ (by
  cases hv:v.ownBlock with
  | none=>exact .inl rfl
  | some k=>exact .inr (by simp))
theorem ay.far (h:ay E w base v L) {row:Option Nat} (hg:w.grownBy w' row) (hne:∀ k,v.ownBlock=some k→row≠some k):ay E w' base v L:=
 World.ownsRow.kept h hg (by
  cases hv:v.ownBlock with
  | none=>exact .inl rfl
  | some k=>right;intro e;exact hne k hv e.symm)
theorem ay.bV (h:ay E w base v L) {g i:Nat} (hne:v.ownBlock≠some g) (u:Value):ay E (w.setCell ⟨g,i,none⟩ u) base v L:=
 h.far (row:=some g) ⟨rfl,rfl,rfl,by simp [World.setCell],fun k _ hk=>Below.heap_setCell _ _ _ _ (fun e=>hk (by rw [e]))⟩ (fun k hk e=>hne (by rw [hk];exact e.symm))
theorem ay.sJ (h:ay E w base v L) {g:Nat} (hne:v.ownBlock≠some g) (cs:Array Value):ay E (w.setRow g cs) base v L:=
 h.far (row:=some g) ⟨rfl,rfl,rfl,by rw [setRow_size];exact Nat.le_refl _,fun i _ hne=>setRow_other _ g i cs (fun e=>hne (by rw [e]))⟩ (fun k hk e=>hne (by rw [hk];exact e.symm))
theorem ay.low (h:ay E w lo v L) (hb:base≤lo):ay E w base v L:=Joins.ownsRow_le h hb
theorem pq (g a b:Nat):((⟨g,0,none⟩:Addr).add a).add b=⟨g,a+b,none⟩:=by
 unfold Addr.add;split
 · split
   · subst_vars;rfl
   · subst_vars;simp
 · split
   · subst_vars;simp
   · simp
theorem bM (g n:Nat):(⟨g,0,none⟩:Addr).add n=⟨g,n,none⟩:=by
 unfold Addr.add;split
 · subst_vars;rfl
 · simp
theorem ay.at (h:ay E w base v L):∃ A c,v= .slice A L.length c∧AtE E w w.heap.size A L:=by
 rcases Joins.ownsRow_forms h with ⟨rfl,h0⟩ | ⟨g,cap,rfl⟩
 · have:L= []:=List.eq_nil_of_length_eq_zero h0;subst this;exact ⟨none,0,rfl,AtE.nil⟩
 · refine ⟨_,cap,rfl,fun k hk=>⟨_,rfl,(World.ownsRow.lt h g rfl).2,fun j hj=>?_⟩⟩;have hf:=E.dV L k hk j hj;have hs:j < (E.C (L[k]'hk)).length:=(by rw [E.len];exact hj);rw [List.getElem?_eq_getElem hs] at hf ⊢;have hc:=World.ownsRow.cells h (g:=g) rfl (k * E.sz+j) _ hf;rw [bM] at hc;rw [pq];exact hc
theorem iM (E:El α) (w:World) (base:Nat) (ty:TypeId) (v:Value) (L:List α) (B:Nat) (A:Option Addr) (n c:Nat) (M:List α) (hn:n=M.length) (hown:ay E w base v L) (hr:AtE E w B A M) (hlen:L.length+M.length≤1000000) (hbase:base≤w.heap.size):
   ∃ v' w',(Builtin.append_ #[E.sl,E.sl] ty #[v, .slice A n c]).run Tryz.prog w= .ok v' w' ∧ay E w' base v' (L ++ M)∧w.grownBy w' v.ownBlock∧(v'.ownBlock=v.ownBlock∨v'.ownBlock=some w.heap.size):=by
 subst hn;have h:=hown;obtain ⟨i0,z,hi,hz,hs,hb,hzs⟩:=E.info;rcases A with _ | ad
 · have hM:M= []:=by
     cases M with
     | nil=>rfl
     | cons s r=>obtain ⟨ad,e,_⟩:=hr 0 (by simp);cases e
   subst hM;refine ⟨v,w,?_,by simpa using hown,World.grownBy.refl w _, .inl rfl⟩;rcases h.2 with ⟨rfl,_⟩ | ⟨g,cap,cur,rfl,_,_,hnc,_⟩
   · simp [Builtin.append_,run_underlying E.hu,sizeOf,typeInfo,hi,Builtin.lenOf,Builtin.firstCells]
   · simp [Builtin.append_,run_underlying E.hu,sizeOf,typeInfo,hi,Builtin.lenOf,Builtin.firstCells,hnc,storeCells]
 · obtain ⟨v',w',hrun,h2,h3,_,h5⟩:=run_append_own_at (P:=Tryz.prog) w base E.sl ty E.e i0 z E.sz E.bs E.hu hi hz hs hb hzs E.pos v L.length _ h ad M.length c (M.flatMap E.C) (E.flat M) (fun j u hu=>by
     have hj:j < M.length * E.sz:=(by have:=(List.getElem?_eq_some_iff.1 hu).1;rwa [E.flat] at this);have hk:j / E.sz < M.length:=Nat.div_lt_of_lt_mul (by rw [Nat.mul_comm];exact hj);have e:j=j / E.sz * E.sz+j % E.sz:=(by rw [Nat.mul_comm];exact (Nat.div_add_mod j E.sz).symm);have hm:j % E.sz < E.sz:=Nat.mod_lt _ E.pos;obtain ⟨ad',e',_,hc⟩:=hr (j / E.sz) hk;cases e';have h2:=hc (j % E.sz) hm;rw [Addr.add_add, ← e] at h2;rw [h2];have h3:=E.dV M (j / E.sz) hk (j % E.sz) hm;rw [← e] at h3;rw [← h3];exact hu) (by
     intro u hu;obtain ⟨t,_,ht⟩:=List.mem_flatMap.1 hu;exact E.one t u ht) (by unfold maxLen;omega) (by
      have h1:(L.length+M.length) * E.bs≤1000000 * 1000:=Nat.mul_le_mul hlen E.small;omega) hbase
   refine ⟨v',w',hrun,?_,h3,h5⟩;show w'.ownsRow base E.e E.sz v' (L ++ M).length ((L ++ M).flatMap E.C);rw [List.length_append,List.flatMap_append];exact h2
theorem aK (E:El α) (w:World) (cs:Array Value) (t:TypeId) (x:α) (h:cs.toList=E.C x) (hB:w.heap.size < B):AtE E (w.alloc (.cells cs t)) B (some ⟨w.heap.size,0,none⟩) [x]:=fun k hk=>by
 have hk0:k=0:=by simpa using hk
 subst hk0;refine ⟨_,rfl,hB,fun j hj=>?_⟩;rw [Nat.zero_mul,pq,(Blk.new w cs t).cell,Nat.zero_add, ← Array.getElem?_toList,h];rfl
theorem ak (E:El α) {ops:Array Oper} {rest:List Oper} {o:Oper} {a:Act} {Q:Exit→Act→World→Prop} (hgd:o.guard=none) (s x:Operand) (ho:o.op= .call { callee:= .builtin .append,args:=#[s,x],argTypes:=#[E.sl,E.sl] })
  (base:Nat) (v:Value) (L:List α) (hs:a.eval s=v) (hown:ay E w base v L) (B:Nat) (A:Option Addr) (n c:Nat) (M:List α) (hx:a.eval x= .slice A n c) (hn:n=M.length) (hr:AtE E w B A M) (hlen:L.length+M.length≤1000000) (hbase:base≤w.heap.size)
  (h:∀ v' w',ay E w' base v' (L ++ M)→w.grownBy w' v.ownBlock→(v'.ownBlock=v.ownBlock∨v'.ownBlock=some w.heap.size)→wpList Tryz.prog ops Q rest (a.put o.dst v') w'):wpList Tryz.prog ops Q (o :: rest) a w:=
 wpList_plain hgd fun K hK=>by
  obtain ⟨v',w',hrun,h2,h3,h4⟩:=iM E w base o.type v L B A n c M hn hown hr hlen hbase;unfold Oper.wp execOp;simp only [ho,resolve,invoke,builtin,Sem.run_bind,Sem.run_pure,Result.andThen_ok,List.map_toArray,List.map_cons,List.map_nil,hs,hx,hrun];exact hK _ _ (h v' w' h2 h3 h4)
theorem aQ (E:El α) {ops:Array Oper} {o:Oper} {a:Act} {K:Act→World→Prop} {Q:Exit→Act→World→Prop} {F:Prop} (hgd:o.guard=none) (s x:Operand) (ho:o.op= .call { callee:= .builtin .append,args:=#[s,x],argTypes:=#[E.sl,E.sl] })
  (base:Nat) (v:Value) (L:List α) (hs:a.eval s=v) (hown:ay E w base v L) (B:Nat) (A:Option Addr) (n c:Nat) (M:List α) (hx:a.eval x= .slice A n c) (hn:n=M.length) (hr:AtE E w B A M) (hlen:L.length+M.length≤1000000) (hbase:base≤w.heap.size)
  (h:∀ v' w',ay E w' base v' (L ++ M)→w.grownBy w' v.ownBlock→(v'.ownBlock=v.ownBlock∨v'.ownBlock=some w.heap.size)→K (a.put o.dst v') w'):
  if Region.wanted o (yielded ops a.tmps)=true then Oper.wp Tryz.prog o a w K Q else F:=by
 have hw:Region.wanted o (yielded ops a.tmps)=true:=by simp [Region.wanted,hgd]
 rw [if_pos hw];obtain ⟨v',w',hrun,h2,h3,h4⟩:=iM E w base o.type v L B A n c M hn hown hr hlen hbase;unfold Oper.wp execOp;simp only [ho,resolve,invoke,builtin,Sem.run_bind,Sem.run_pure,Result.andThen_ok,List.map_toArray,List.map_cons,List.map_nil,hs,hx,hrun];exact h v' w' h2 h3 h4
end
structure En where
 nm:ByteArray
 ino:Int
structure Nd where
 ino:Int
 kind:Int
 mode:Int
 uid:Int
 gid:Int
 par:Int
 tg:ByteArray
 es:List En
structure Dv where
 nx:Int
 ns:List Nd
structure Nm where
 nd:Nd
 A:Option Addr
 c:Nat
structure Dm where
 nx:Int
 xs:List Nm
 A:Option Addr
 c:Nat
abbrev Nm.sl (x:Nm):Value:= .slice x.A x.nd.es.length x.c
abbrev Dm.sl (d:Dm):Value:= .slice d.A d.xs.length d.c
def Dm.dv (d:Dm):Dv:=⟨d.nx,d.xs.map (·.nd)⟩
abbrev ndC (n:Nd) (v:Value):Array Value:=#[.int .i64 n.ino, .int .i64 n.kind, .int .i64 n.mode, .int .i64 n.uid, .int .i64 n.gid, .int .i64 n.par, .string n.tg,v]
abbrev dvC (nx:Int) (v:Value):Array Value:=#[.int .i64 nx,v]
def zNd:Nd:=⟨0,0,0,0,0,0,⟨#[]⟩, []⟩
theorem Tryz.Dp:(Tryz.prog.info? 209).map (fun i=>(i.zero,i.size,i.bytes))=some (some (.agg #[.string ⟨#[]⟩, .int .i64 0]),2,24):=by kernel_rfl
theorem Tryz.Dq:(Tryz.prog.info? 145).map (fun i=>(i.zero,i.size,i.bytes))=some (some (.agg (ndC zNd (.slice none 0 0))),8,88):=by kernel_rfl
theorem Tryz.Dr:(Tryz.prog.info? 142).map (fun i=>(i.zero,i.size,i.bytes))=some (some (.agg (dvC 0 (.slice none 0 0))),2,32):=by kernel_rfl
def EEn:El En where
 C x:= [.string x.nm, .int .i64 x.ino]
 e:=209
 sl:=143
 sz:=2
 bs:=24
 len _:=rfl
 one x u hu:=by simp at hu;rcases hu with rfl | rfl <;> rfl
 pos:=by omega
 small:=by omega
 hu:=Tryz.underlying143
 info:=by
  obtain ⟨i0,h1,h2,h3,h4⟩:=info_parts Tryz.Dp;exact ⟨i0,_,h1,h2,h3,h4,rfl⟩
def ENd:El Nm where
 C x:= [.int .i64 x.nd.ino, .int .i64 x.nd.kind, .int .i64 x.nd.mode, .int .i64 x.nd.uid, .int .i64 x.nd.gid, .int .i64 x.nd.par, .string x.nd.tg, .slice x.A x.nd.es.length x.c]
 e:=145
 sl:=140
 sz:=8
 bs:=88
 len _:=rfl
 one x u hu:=by simp at hu;rcases hu with rfl | rfl | rfl | rfl | rfl | rfl | rfl | rfl <;> rfl
 pos:=by omega
 small:=by omega
 hu:=Tryz.underlying140
 info:=by
  obtain ⟨i0,h1,h2,h3,h4⟩:=info_parts Tryz.Dq;exact ⟨i0,_,h1,h2,h3,h4,rfl⟩
def EDv:El Dm where
 C d:= [.int .i64 d.nx, .slice d.A d.xs.length d.c]
 e:=142
 sl:=26
 sz:=2
 bs:=32
 len _:=rfl
 one x u hu:=by simp at hu;rcases hu with rfl | rfl <;> rfl
 pos:=by omega
 small:=by omega
 hu:=Tryz.underlying26
 info:=by
  obtain ⟨i0,h1,h2,h3,h4⟩:=info_parts Tryz.Dr;exact ⟨i0,_,h1,h2,h3,h4,rfl⟩
def iN (n:Nd):Prop:=n.es.length≤1000∧n.tg.size≤1000∧∀ x∈n.es,x.nm.size≤1000
structure bW (w:World) (B:Nat) (A:Option Addr) (ds:List Dm):Prop where
 at_:AtE EDv w B A ds
 few:ds.length≤1000
 nodes:∀ d∈ds,AtE ENd w B d.A d.xs∧d.xs.length≤1000
 bX:∀ d∈ds,∀ x∈d.xs,AtE EEn w B x.A x.nd.es∧iN x.nd
section
variable {w w' :World} {B B' :Nat} {A:Option Addr} {ds:List Dm}
theorem bW.keep (h:bW w B A ds) (hb:Below B' w w') (hB:B≤B'):bW w' B A ds:=
 ⟨h.at_.keep hb hB,h.few,fun d hd=>⟨(h.nodes d hd).1.keep hb hB,(h.nodes d hd).2⟩,fun d hd x hx=>⟨(h.bX d hd x hx).1.keep hb hB,(h.bX d hd x hx).2⟩⟩
theorem bW.more (h:bW w B A ds) (hB:B≤B'):bW w B' A ds:=
 ⟨h.at_.more hB,h.few,fun d hd=>⟨(h.nodes d hd).1.more hB,(h.nodes d hd).2⟩,fun d hd x hx=>⟨(h.bX d hd x hx).1.more hB,(h.bX d hd x hx).2⟩⟩
theorem bW.below (h:bW w w.heap.size A ds) (hb:Below w.heap.size w w'):bW w' w'.heap.size A ds:=(h.keep hb (Nat.le_refl _)).more hb.size
end
def eY (f:List Dv) (dev:Int):Option Dv:=if dev < 0 then none else f[dev.toNat]?
def iO (l:List Nd) (ino:Int):Option Nat:=l.findIdx? (fun n=>n.ino == ino)
def eZ (f:List Dv) (dev ino:Int):Option Nat:=(eY f dev).bind fun d=>iO d.ns ino
def aF (f:List Dv) (dev ino:Int):Option Nd:=(eY f dev).bind fun d=>d.ns.find? (fun n=>n.ino == ino)
def bJ (f:List Dv) (dev ino:Int):Bool:=match aF f dev ino with | some n=>n.kind == 2 | none=>false
def Dt:Option Nat→Int | some i=>i | none=> -1
theorem fP {w:World} {a:Addr} {x:En} (h:∀ j,j < 2→w.cell? (a.add j)=(EEn.C x)[j]?):w.cell? a=some (.string x.nm)∧w.cell? ⟨a.block,a.off+1,none⟩=some (.int .i64 x.ino):=⟨h 0 (by omega),h 1 (by omega)⟩
theorem bL {w:World} {a:Addr} {d:Dm} (h:∀ j,j < 2→w.cell? (a.add j)=(EDv.C d)[j]?):w.cell? a=some (.int .i64 d.nx)∧w.cell? ⟨a.block,a.off+1,none⟩=some (.slice d.A d.xs.length d.c):=⟨h 0 (by omega),h 1 (by omega)⟩
theorem cZ {w:World} {a:Addr} {x:Nm} (h:∀ j,j < 8→w.cell? (a.add j)=(ENd.C x)[j]?):
  w.cell? a=some (.int .i64 x.nd.ino)∧w.cell? ⟨a.block,a.off+1,none⟩=some (.int .i64 x.nd.kind)∧w.cell? ⟨a.block,a.off+2,none⟩=some (.int .i64 x.nd.mode)∧w.cell? ⟨a.block,a.off+3,none⟩=some (.int .i64 x.nd.uid)∧w.cell? ⟨a.block,a.off+4,none⟩=some (.int .i64 x.nd.gid)∧w.cell? ⟨a.block,a.off+5,none⟩=some (.int .i64 x.nd.par)∧w.cell? ⟨a.block,a.off+6,none⟩=some (.string x.nd.tg)∧w.cell? ⟨a.block,a.off+7,none⟩=some (.slice x.A x.nd.es.length x.c):=
 ⟨h 0 (by omega),h 1 (by omega),h 2 (by omega),h 3 (by omega),h 4 (by omega),h 5 (by omega),h 6 (by omega),h 7 (by omega)⟩
theorem iP {ds:List Dm} {dev:Int} (h:dev < 0∨(ds.length:Int)≤dev):eY (ds.map Dm.dv) dev=none:=by
 unfold eY;split
 · rfl
 · rw [List.getElem?_eq_none];simp;omega
theorem dF {ds:List Dm} {dev:Int} (h0:0≤dev) (h1:dev.toNat < ds.length):eY (ds.map Dm.dv) dev=some (ds[dev.toNat].dv):=by
 unfold eY;rw [if_neg (by omega),List.getElem?_map,List.getElem?_eq_getElem h1];rfl
theorem sK {l:List Nd} {ino:Int} (h:∀ k (hk:k < l.length),(l[k].ino == ino)=false):iO l ino=none:=by
 unfold iO;rw [List.findIdx?_eq_none_iff];intro x hx;obtain ⟨k,hk,rfl⟩:=List.getElem_of_mem hx;exact h k hk
theorem sM {l:List Nd} {ino:Int} {k:Nat} (hk:k < l.length) (h:∀ j (hj:j < k),(l[j].ino == ino)=false) (he:(l[k].ino == ino)=true):iO l ino=some k:=by
 unfold iO;rw [List.findIdx?_eq_some_iff_getElem];exact ⟨hk,he,fun j hj=>by rw [h j hj];decide⟩
theorem xn {l:List Nd} {ino:Int} {k:Nat} (h:iO l ino=some k):∃ hk:k < l.length,l.find? (fun n=>n.ino == ino)=some l[k]:=by
 unfold iO at h;obtain ⟨hk,he,hn⟩:=List.findIdx?_eq_some_iff_getElem.1 h;refine ⟨hk,?_⟩;rw [List.find?_eq_some_iff_getElem];exact ⟨he,k,hk,rfl,fun j hj=>by have:=hn j hj;simpa using this⟩
theorem xu {l:List Nd} {ino:Int} (h:iO l ino=none):l.find? (fun n=>n.ino == ino)=none:=by
 unfold iO at h;rw [List.findIdx?_eq_none_iff] at h;rw [List.find?_eq_none];intro x hx;rw [h x hx];decide
theorem bA {q n:Nat} (h:q≤n) (h9:n≤1000000):wrap64 ((q:Int)+1)=(q:Int)+1∧IntKind.i64.wrap ((q:Int)+1)=(q:Int)+1:=⟨IntWalk.wrap64_in _ (by omega),IntWalk.i64_in _ (by omega)⟩
abbrev fsV (A:Option Addr) (n c:Nat):Value:= .agg #[.slice A n c]
abbrev flV (dev ino:Int):Value:= .agg #[.int .i64 dev, .int .i64 ino]
theorem ku (dev ino:Int) (ds:List Dm) (A:Option Addr) (n c:Nat) (hn:n=ds.length) (w:World) (h:bW w w.heap.size A ds):
   Calls Tryz.prog 117 #[fsV A n c,flV dev ino] w fun e w' =>e= .returned (.int .i64 (Dt (eZ (ds.map Dm.dv) dev ino)))∧Below w.heap.size w w' :=by
 have HN:=Hd hn;have HB:=Hd (show Below w.heap.size w ((w.alloc (.cells #[.slice A n c] 28)).alloc (.cells #[.int .i64 dev, .int .i64 ino] 44)) from ((Below.refl w.heap.size w).alloc (Nat.le_refl _) _).alloc (by simp) _);have HF:=Hd (h.below HB.o);have HW:=Hd h.few;clear h hn;by_cases h0:dev < 0
 · have HR:=Hd (show eZ (ds.map Dm.dv) dev ino=none by unfold eZ;rw [iP (.inl h0)];rfl);go_in;go_wp2_with fail;go_ret;exact ⟨by rw [HR.o];rfl,HB.o⟩
 have h0' :¬ dev < 0:=h0;by_cases h1:(n:Int)≤dev
 · have HR:=Hd (show eZ (ds.map Dm.dv) dev ino=none by unfold eZ;rw [iP (.inr (by rw [← HN.o];exact h1))];rfl);go_in;go_wp2_with fail;go_ret;exact ⟨by rw [HR.o];rfl,HB.o⟩
 obtain ⟨k,rfl⟩:∃ k:Nat,dev=k:=⟨dev.toNat,by omega⟩;have hk:k < ds.length:=by rw [← HN.o];omega
 have k1:(k:Int) < (n:Int):=by omega
 have k2:(0:Int)≤(k:Int):=by omega
 have HI:=Hd (show eZ (ds.map Dm.dv) (k:Int) ino=iO (ds[k].xs.map (·.nd)) ino by
   unfold eZ;rw [dF (by omega) (by rw [Int.toNat_natCast];exact hk)];rfl)
 have HD:=Hd (HF.o.nodes ds[k] (List.getElem_mem hk));obtain ⟨ad,rfl,hab,hcx⟩:=HF.o.at_ k hk;obtain ⟨s0,s1⟩:=bL (a:=ad.add (k * 2)) hcx;clear hcx h0 h1;generalize ds[k]=d at *;go_in;go_wp2_with fail;generalize hW:(w.alloc (.cells #[.slice (some ad) n c] 28)).alloc (.cells #[.int .i64 (k:Int), .int .i64 ino] 44)=W at *;have q1:W.cell? ⟨w.heap.size+1,1,none⟩=some (.int .i64 ino):=by
   rw [← hW];have:=(Blk.new (w.alloc (.cells #[.slice (some ad) n c] 28)) #[.int .i64 (k:Int), .int .i64 ino] 44).cell 1;simpa using this
 clear hW s0 s1;go_loopw [6] (fun i wr=>∃ j t:Nat,j≤d.xs.length∧i= .int .i64 j∧wr=W.drewN t∧∀ q (hq:q < j) (hl:q < d.xs.length),(d.xs[q].nd.ino == ino)=false) (fun i _=>d.xs.length - (intOf i).toNat);case atStart=>exact ⟨0,0,Nat.zero_le _,rfl,rfl,fun q hq=>by omega⟩
 case round=>
   obtain ⟨j,t,hj,rfl,rfl,hno⟩:=hrel;have HNO:=Hd hno;clear hno;by_cases hlt:j < d.xs.length
   · have j1:(j:Int) < (d.xs.length:Int):=(by omega);have j2:(0:Int)≤(j:Int):=(by omega);have j3:=HD.o.2;have w1:wrap64 ((j:Int)+1)=(j:Int)+1:=IntWalk.wrap64_in _ (by omega);have w2:IntKind.i64.wrap ((j:Int)+1)=(j:Int)+1:=IntWalk.i64_in _ (by omega);obtain ⟨bd,hbd,hbb,hcy⟩:=HD.o.1 j hlt;obtain ⟨t0,t1⟩:=cZ (a:=bd.add (j * 8)) hcy;have HX:=Hd (fun h:(d.xs[j].nd.ino == ino)=true=>sM (l:=d.xs.map (·.nd)) (ino:=ino) (k:=j) (by simpa using hlt) (fun q hq=>by simpa using HNO.o q hq (by omega)) (by simpa using h));have HY:=Hd (fun h:(d.xs[j].nd.ino == ino)=false=>show ∀ q (hq:q < j+1) (hl:q < d.xs.length),(d.xs[q].nd.ino == ino)=false from fun q hq hl=>by
      by_cases he:q=j
      · subst he;exact h
      · exact HNO.o q (by omega) hl)
     clear hcy t1 HNO;generalize d.xs[j]=x at *;rw [hbd];cases hb:(x.nd.ino == ino) with
     | true=>
      have HR:=Hd (HX.o hb);go_upto_region 7 with fail;go_quiet (fail);go_wp2_with fail;go_ret;exact ⟨by rw [HI.o,HR.o];rfl,below_drewN (below_drewN HB.o _) _⟩
     | false=>
      have HR:=Hd (HY.o hb);go_upto_region 7 with fail;go_quiet (fail);go_wp2_with fail;go_roundw;case rel=>exact ⟨j+1,_,by omega,by go_num,rfl,HR.o⟩
      case measure=>simp [intOf];omega
   · have j1:¬ (j:Int) < (d.xs.length:Int):=(by omega);have HR:=Hd (show iO (d.xs.map (·.nd)) ino=none from sK (fun q hq=>by simpa using HNO.o q (by simp at hq;omega) (by simpa using hq)));go_wp2_with fail;go_ret;exact ⟨by rw [HI.o,HR.o];rfl,below_drewN HB.o _⟩
theorem xH (w:World) (base g:Nat) (b:Int) (h:aY w base g b) (hb:b≤100000000000000):
   Calls Tryz.prog 108 #[.pointer (some ⟨g,0,none⟩)] w (Ar w base g (b+2) 13):=by
 have H:=Hd h;have HB:=Hd hb;clear h hb;go_in;go_wp2_with fail;refine (jM _ base g b _ H.o (by have:=HB.o;omega) (by omega) (by omega)).mono ?_;rintro e w1 ⟨x,rfl,hx0,hx1,hs,hg⟩;have HS:=Hd hs;have hlt:g < w1.heap.size:=dz hs;clear hs;by_cases hx:x=19
 · have hxb:(x == 19)=true:=(by simpa using hx);clear hx;go_wp2_with fail;refine (jT _ base g w1.heap.size (b+1) 8 13 _ 9 (0,0) (HS.o.alloc _) (by have:=HB.o;omega) (heap_alloc_new w1 _) (by omega) rfl (by omega) (by omega) rfl).mono ?_;rintro e w2 ⟨y,rfl,hym,hs2,hg2⟩;have HS2:=Hd hs2;clear hs2;go_wp2_with fail;go_ret;exact ⟨_,rfl,hym,HS2.o.more (by omega),(bE hg _).trans hg2⟩
 · have hxb:(x == 19)=false:=(by simpa using hx);clear hx;go_wp2_with fail;refine (jT _ base g w1.heap.size (b+1) 6 13 _ 9 (0,0) (HS.o.alloc _) (by have:=HB.o;omega) (heap_alloc_new w1 _) (by omega) rfl (by omega) (by omega) rfl).mono ?_;rintro e w2 ⟨y,rfl,hym,hs2,hg2⟩;have HS2:=Hd hs2;clear hs2;go_wp2_with fail;go_ret;exact ⟨_,rfl,hym,HS2.o.more (by omega),(bE hg _).trans hg2⟩
theorem xI (w:World) (base g:Nat) (b:Int) (h:aY w base g b) (hb:b≤10000000000000):
  Calls Tryz.prog 88 #[.pointer (some ⟨g,0,none⟩)] w (Ar w base g (b+20) 60):=by
 have H:=Hd h;have HB:=Hd hb;clear h hb;go_in;go_wp2_with fail;refine (jM _ base g b _ H.o (by have:=HB.o;omega) (by omega) (by omega)).mono ?_;rintro e w1 ⟨x,rfl,hx0,hx1,hs,hg⟩;have HS:=Hd hs;have hlt1:g < w1.heap.size:=dz hs;clear hs;go_wp2_with fail;all_goals
  refine (fO _ base g w1.heap.size (b+1) 7 0 4 _ 3 (0,0) (HS.o.alloc _) (by have:=HB.o;omega) (heap_alloc_new w1 _) (by omega) rfl (by omega) (by omega) rfl).mono ?_;rintro e w2 ⟨n,rfl,hn0,hn1,hs2,hg2⟩;obtain ⟨n0,rfl⟩:=Int.eq_ofNat_of_zero_le hn0;have HS2:=Hd hs2;have hgf:=(bE hg (.cells #[.int .i64 1, .int .i64 1, .int .i64 2, .int .i64 2, .int .i64 3, .int .i64 0, .int .i64 4] 3)).trans hg2;clear hs2 hg2 hg;go_wp2_with fail;go_loopw [3,5] (fun v i wr=>∃ (T:ByteArray) (k:Nat),v= .string T∧i= .int .i64 (k:Int)∧k≤n0∧T.size≤1+14 * k∧w.grownBy wr (some g)∧Hid (aY wr base g (b+2+3 * k))) (fun _ i _=>n0 - (intOf i).toNat);case atStart=>exact ⟨_,0,rfl,rfl,Nat.zero_le _,by decide,hgf,HS2.o.more (by omega)⟩
  case round=>
   obtain ⟨T,k,rfl,rfl,hk,hT,hgr,hsr⟩:=hrel;clear hgf HS2 HS;have hT4:T.size≤100:=(by omega);by_cases hkn:k < n0
   · by_cases hk0:0 < k;all_goals
       go_wp2_with fail;refine (jM _ base g (b+2+3 * k) _ hsr.o (by have:=HB.o;omega) (by omega) (by omega)).mono ?_;rintro e w3 ⟨y,rfl,hy0,hy1,hs3,hg3⟩;have HS3:=Hd hs3;have hg3' :=hgr.trans hg3;have hlt3:g < w3.heap.size:=dz hs3;clear hs3 hg3;by_cases hy:y=7
       · have hyb:(y == 7)=true:=(by simpa using hy);clear hy;go_wp2_with fail;refine (jT _ base g w3.heap.size (b+2+3 * k+1) 4 13 _ 9 (0,0) (HS3.o.alloc _) (by have:=HB.o;omega) (heap_alloc_new w3 _) (by omega) rfl (by omega) (by omega) rfl).mono ?_;rintro e w4 ⟨z,rfl,hzm,hs4,hg4⟩;have HS4:=Hd hs4;have Iz:=(bE hg3' (.cells #[.string ⟨#[46]⟩, .string ⟨#[46,46]⟩, .string ⟨#[]⟩, .string ⟨#[97,47,47,98]⟩] 9)).trans hg4;clear hs4 hg4;go_wp2_with fail;go_roundw;case rel=>exact ⟨_,k+1,rfl,by go_num,by omega,by simp only [ByteArray.size_append];first | omega | (show _+1+_≤_;omega),Iz,HS4.o.more (by omega)⟩
         case measure=>simp [intOf];omega
       · have hyb:(y == 7)=false:=(by simpa using hy);clear hy;go_wp2_with fail;refine (xH _ base g (b+2+3 * k+1) HS3.o (by have:=HB.o;omega)).mono ?_;rintro e w4 ⟨z,rfl,hzm,hs4,hg4⟩;have HS4:=Hd hs4;have Iz:=hg3'.trans hg4;clear hs4 hg4;go_wp2_with fail;go_roundw;case rel=>exact ⟨_,k+1,rfl,by go_num,by omega,by simp only [ByteArray.size_append];first | omega | (show _+1+_≤_;omega),Iz,HS4.o.more (by omega)⟩
         case measure=>simp [intOf];omega
   · go_wp2_with fail;refine (jM _ base g (b+2+3 * k) _ hsr.o (by have:=HB.o;omega) (by omega) (by omega)).mono ?_;rintro e w3 ⟨y,rfl,hy0,hy1,hs3,hg3⟩;have HS3:=Hd hs3;have hg3' :=hgr.trans hg3;clear hs3 hg3;by_cases hy:y=7
     · have hyb:(y == 7)=true:=(by simpa using hy);clear hy;go_wp2_with fail;go_ret;exact ⟨_,rfl,by rw [ByteArray.size_append];show _+1≤_;omega,HS3.o.more (by omega),hg3'⟩
     · have hyb:(y == 7)=false:=(by simpa using hy);clear hy;go_wp2_with fail;go_ret;exact ⟨_,rfl,by omega,HS3.o.more (by omega),hg3'⟩
end Go.Proofs.YtollifnnpihfdaaGreatDoor
