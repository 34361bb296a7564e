import Derived.Test.YtollifnnpihfdaaGreatDoorW01
import Derived.Lib.BufferRead
import Derived.Lib.SmallJoins
import Derived.WalkSpells
import Derived.BigQuiet
import Derived.WalkLawsBesides
import Derived.Test.YtollifnnpihfdaaGreatDoorSh
import Derived.Lib.AppendIntMem
import Derived.Test.YtollifnnpihfdaaGreatDoorRows
set_option maxRecDepth 100000
set_option maxHeartbeats 64000000
set_option linter.all false
namespace Go.Proofs.YtollifnnpihfdaaGreatDoor
theorem rV (s:ByteArray) (k:Nat) (h:k < s.size):s.data.toList.take (k+1)=s.data.toList.take k ++ [s[k]]:=by
 rw [List.take_succ_eq_append_getElem (by simpa using h)];rfl
theorem pR (s:ByteArray) (k:Nat) (h:s.size≤k):s.data.toList.take k=s.data.toList:=
 List.take_of_length_le (by simpa using h)
abbrev bv (c:UInt8):Value:= .int .u8 (c.toNat:Int)
open Go.RowKit
theorem below_drewN {B:Nat} {a w:World} (h:Below B a w) (n:Nat):Below B a (w.drewN n):=⟨h.os,h.tape,h.output,h.size,h.block⟩
theorem aa {a b c:World} (h:Below a.heap.size a b) (k:Below b.heap.size b c):Below a.heap.size a c:=h.trans (k.mono h.size)
def rW (w:World) (g:Nat) (cs:Array Value):Prop:=∃ tt fr,w.heap[g]? =some (.cells cs tt fr)
theorem rW.lt {w:World} {g:Nat} {cs:Array Value} (h:rW w g cs):g < w.heap.size:=by
 obtain ⟨tt,fr,h⟩:=h;rcases Nat.lt_or_ge g w.heap.size with hlt | hge
 · exact hlt
 · rw [Array.getElem?_eq_none hge] at h;cases h
theorem rW.cell {w:World} {g:Nat} {cs:Array Value} (h:rW w g cs) (i:Nat):w.cell? ⟨g,i,none⟩=cs[i]? :=by
 obtain ⟨tt,fr,h⟩:=h;exact cell_of_row w g i cs tt fr h
theorem rW.below {B:Nat} {w w' :World} {g:Nat} {cs:Array Value} (h:rW w g cs) (hb:Below B w w') (hB:w.heap.size≤B):rW w' g cs:=by
 have hlt:=h.lt;obtain ⟨tt,fr,h⟩:=h;exact ⟨tt,fr,(hb.block g (by omega)).trans h⟩
def aX (w:World) (base g:Nat) (b:Int):Prop:=base≤g∧∃ (A:Option Addr) (n c:Nat) (a:Int),w.heap[g]? =some (.cells #[.slice A n c, .int .i64 a] 111 (0,0))∧0≤a∧a≤b∧(n:Int)≤9223372036854775807∧
 ∀ k,k < n→∃ (ad:Addr) (z:Int),A=some ad∧ad.block < base∧w.cell? (ad.add k)=some (.int .i64 z)∧ -9223372036854775808≤z∧z≤9223372036854775807
theorem dn {w:World} {base g:Nat} {b:Int} (h:aX w base g b):g < w.heap.size:=by
 obtain ⟨_,A,n,c,a,hg,_⟩:=h;exact (Array.getElem?_eq_some_iff.1 hg).1
theorem aX.more {w:World} {base g:Nat} {b b' :Int} (h:aX w base g b) (hb:b≤b'):aX w base g b' :=by
 obtain ⟨h0,A,n,c,a,hg,ha,hab,hn,hl⟩:=h;exact ⟨h0,A,n,c,a,hg,ha,by omega,hn,hl⟩
theorem block_add (a:Addr) (n:Nat):(a.add n).block=a.block:=by unfold Addr.add;split <;> rfl
theorem aX.keep {w w' :World} {base g:Nat} {b:Int} (h:aX w base g b) (hg' :w'.heap[g]? =w.heap[g]?) (hk:∀ i,i < base→w'.heap[i]? =w.heap[i]?):aX w' base g b:=by
 obtain ⟨h0,A,n,c,a,hg,ha,hab,hn,hl⟩:=h;refine ⟨h0,A,n,c,a,hg'.trans hg,ha,hab,hn,fun k hk' =>?_⟩;obtain ⟨ad,z,e,hb,hc,hz⟩:=hl k hk';exact ⟨ad,z,e,hb,(World.cell?_of_block (by rw [block_add];exact hk _ hb)).trans hc,hz⟩
theorem aX.below {w w' :World} {base g:Nat} {b:Int} (h:aX w base g b) (hb:Below w.heap.size w w'):aX w' base g b:=
 h.keep (hb.block g (dn h)) fun i hi=>hb.block i (by have:=dn h;have:=h.1;omega)
theorem aX.grown {w w' :World} {base g:Nat} {b:Int} (h:aX w base g b) {row:Option Nat} (hg:w.grownBy w' row) (hr:∀ r,row=some r→base≤r∧r≠g):aX w' base g b:=
 h.keep (hg.block g (dn h) (fun e=>(hr g e.symm).2 rfl)) fun i hi=>hg.block i (by have:=dn h;have:=h.1;omega) (fun e=>by have:=(hr i e.symm).1;omega)
theorem aX.alloc {w:World} {base g:Nat} {b:Int} (h:aX w base g b) (o:Obj):aX (w.alloc o) base g b:=h.below ((Below.refl _ _).alloc (Nat.le_refl _) o)
theorem aX.drew {w:World} {base g:Nat} {b:Int} (h:aX w base g b):aX w.drew base g b:=h
theorem aX.setCell {w:World} {base g:Nat} {b:Int} (h:aX w base g b) {p:Addr} (hp:base≤p.block) (hne:p.block≠g) (u:Value):aX (w.setCell p u) base g b:=
 h.keep (Below.heap_setCell w p u g (Ne.symm hne)) fun i hi=>Below.heap_setCell w p u i (by omega)
theorem kV {a w:World} {row:Option Nat} (h:a.grownBy w row) (n:Nat):a.grownBy (w.drewN n) row:=⟨h.os,h.tape,h.output,h.size,h.block⟩
theorem bC {a w:World} {row:Option Nat} (h:a.grownBy w row) (o:Obj):a.grownBy (w.alloc o) row:=
 ⟨h.os,h.tape,h.output,Nat.le_trans h.size (by simp),fun i hi hne=>(Below.heap_alloc w o i (Nat.lt_of_lt_of_le hi h.size)).trans (h.block i hi hne)⟩
theorem aD {a w:World} {g:Nat} (h:a.grownBy w (some g)) {p:Addr} (hp:p.block=g∨a.heap.size≤p.block) (u:Value):a.grownBy (w.setCell p u) (some g):=
 ⟨h.os,h.tape,h.output,by simpa [World.setCell] using h.size,fun i hi hne=>(Below.heap_setCell w p u i (fun e=>by
  rcases hp with hp | hp
  · exact hne (by rw [e,hp])
  · omega)).trans (h.block i hi hne)⟩
theorem bD {a w w' :World} {row:Option Nat} (h:a.grownBy w row) (hb:Below w.heap.size w w'):a.grownBy w' row:=
 ⟨hb.os.trans h.os,hb.tape.trans h.tape,hb.output.trans h.output,Nat.le_trans h.size hb.size,fun i hi hne=>(hb.block i (Nat.lt_of_lt_of_le hi h.size)).trans (h.block i hi hne)⟩
theorem kW {B:Nat} {a w w' :World} {g:Nat} (h:Below B a w) (hg:w.grownBy w' (some g)) (hB:B≤w.heap.size) (hBg:B≤g):Below B a w' :=
 h.grown hg hB fun k hk=>by injection hk with hk;omega
def Hy (w:World) (base g:Nat) (b n:Int) (e:Ending) (w' :World):Prop:=∃ x:Int,e= .returned (.int .i64 x)∧0≤x∧x < n∧aX w' base g (b+1)∧w.grownBy w' (some g)
theorem zV {w:World} {base g:Nat} {b:Int} (h0:base≤g) {A:Option Addr} {n c:Nat} {a:Int} (hg:w.heap[g]? =some (.cells #[.slice A n c, .int .i64 a] 111 (0,0))) (ha:0≤a) (hab:a≤b) (hn:(n:Int)≤9223372036854775807)
  (hl:∀ k,k < n→∃ (ad:Addr) (z:Int),A=some ad∧ad.block < base∧w.cell? (ad.add k)=some (.int .i64 z)∧ -9223372036854775808≤z∧z≤9223372036854775807):
  aX (w.setCell ⟨g,1,none⟩ (.int .i64 (a+1))) base g (b+1)∧w.grownBy (w.setCell ⟨g,1,none⟩ (.int .i64 (a+1))) (some g):=by
 refine ⟨⟨h0,A,n,c,a+1,heap_setCell_same w g 1 #[.slice A n c, .int .i64 a] _ (.int .i64 (a+1)) hg,by omega,by omega,hn,fun k hk=>?_⟩,aD (World.grownBy.refl w _) (.inl rfl) _⟩;obtain ⟨ad,z,e,hb,hc,hz⟩:=hl k hk;exact ⟨ad,z,e,hb,(World.cell?_of_block (by rw [block_add];exact Below.heap_setCell w ⟨g,1,none⟩ _ _ (by show ad.block≠g;omega))).trans hc,hz⟩
theorem zW (z n:Int) (hn:1≤n): -n < z.tmod n∧z.tmod n < n:=by
 have h1:=Int.tmod_lt_of_pos z (show 0 < n by omega);have h2: -n < z.tmod n:=by
  have:=Int.tmod_lt_of_pos (-z) (show 0 < n by omega);rw [Int.neg_tmod] at this;omega
 exact ⟨h2,h1⟩
theorem jG (w:World) (base g:Nat) (b n:Int) (h:aX w base g b) (hb:b≤1000000000000000) (hn1:1≤n) (hn2:n≤1000000000000000):
   Calls Tryz.prog 14 #[.pointer (some ⟨g,0,none⟩), .int .i64 n] w (Hy w base g b n):=by
 obtain ⟨h0,A,ln,c,a,hg,ha,hab,hln,hl⟩:=h;have Gy:=Hd (zV h0 hg ha hab hln hl);have q0:w.cell? ⟨g,0,none⟩=some (.slice A ln c):=cell_of_row w g 0 _ _ (0,0) hg;have q1:w.cell? ⟨g,1,none⟩=some (.int .i64 a):=cell_of_row w g 1 _ _ (0,0) hg;have qf:w.frozen? ⟨g,1,none⟩=false:=frozen_of_row w g 1 _ _ hg;have HG:=Hd (show (w.setCell ⟨g,1,none⟩ (.int .i64 (a+1))).heap[g]? =some (.cells #[.slice A ln c, .int .i64 (a+1)] 111 (0,0)) from heap_setCell_same w g 1 #[.slice A ln c, .int .i64 a] _ (.int .i64 (a+1)) hg);have hkb:a+1≤1000000000000001:=by omega
 have HL:=Hd hl;have HLN:=Hd hln;clear hg hl hln;by_cases hlt:a < (ln:Int)
 · obtain ⟨ad,z,hA,JY,hc,hz0,hz1⟩:=HL.o a.toNat (by omega);subst hA;have HC:=Hd (show (w.setCell ⟨g,1,none⟩ (.int .i64 (a+1))).cell? (ad.add a.toNat)=some (.int .i64 z) from
    (World.cell?_of_block (by rw [block_add];exact Below.heap_setCell w ⟨g,1,none⟩ _ _ (by show ad.block≠g;omega))).trans hc)
   clear hc HL;have d1:decide (a+1≤(ln:Int))=true:=(by simp;omega);have tb:=Hd (zW z n hn1);go_in;go_wp2_with fail;clear q0 q1 qf;generalize w.setCell ⟨g,1,none⟩ (.int .i64 (a+1))=w1 at *;have s0:w1.cell? ⟨g,0,none⟩=some (.slice (some ad) ln c):=cell_of_row w1 g 0 _ _ (0,0) HG.o;have s1:w1.cell? ⟨g,1,none⟩=some (.int .i64 (a+1)):=cell_of_row w1 g 1 _ _ (0,0) HG.o;have s2:=HC.o;go_quiet (fail);have w1' :IntKind.i64.wrap (a+1 - 1)=a:=(by rw [show a+1 - 1=a by omega];exact IntWalk.i64_in _ (by omega));go_wp2_with fail;go_quiet (fail);clear w1' s0 s1 s2 d1;obtain ⟨t1,t2⟩:=tb.o;go_wp2_with fail;all_goals
    go_ret;exact ⟨_,rfl,by omega,by omega,Gy.o.1,kV Gy.o.2 _⟩
 · have d1:decide (a+1≤(ln:Int))=false:=(by simp;omega);have d2:(0:Int)≤(a+1) * 7:=(by omega);have tb1:0≤((a+1) * 7) % n:=Int.emod_nonneg _ (by omega);have tb2:((a+1) * 7) % n < n:=Int.emod_lt_of_pos _ (by omega);clear HL;go_in;go_wp2_with fail;clear q0 q1 qf;generalize w.setCell ⟨g,1,none⟩ (.int .i64 (a+1))=w1 at *;have s0:w1.cell? ⟨g,0,none⟩=some (.slice A ln c):=cell_of_row w1 g 0 _ _ (0,0) HG.o;have s1:w1.cell? ⟨g,1,none⟩=some (.int .i64 (a+1)):=cell_of_row w1 g 1 _ _ (0,0) HG.o;go_quiet (fail);clear s0 s1 d1;go_wp2_with fail;go_ret;exact ⟨_,rfl,tb1,tb2,Gy.o.1,kV Gy.o.2 _⟩
theorem zX (w:World) (A:Option Addr) (n c:Nat) (hn:(n:Int)≤9223372036854775807)
  (hl:∀ k,k < n→∃ (ad:Addr) (z:Int),A=some ad∧ad.block < w.heap.size∧w.cell? (ad.add k)=some (.int .i64 z)∧ -9223372036854775808≤z∧z≤9223372036854775807):
  Calls Tryz.prog 10 #[.slice A n c] w fun e w' =>e= .returned (.pointer (some ⟨w.heap.size,0,none⟩))∧aX w' w.heap.size w.heap.size 0∧Below w.heap.size w w' :=by
 have HL:=Hd hl;have HN:=Hd hn;clear hl hn;go_in
 go_wp2
 go_ret;refine ⟨rfl,⟨Nat.le_refl _,A,n,c,0,heap_alloc_new w _,by omega,by omega,HN.o,fun k hk=>?_⟩,(Below.refl _ _).alloc (Nat.le_refl _) _⟩;obtain ⟨ad,z,e,hb,hc,hz⟩:=HL.o k hk;exact ⟨ad,z,e,hb,(World.cell?_of_block (by rw [block_add];exact Below.heap_alloc w _ _ hb)).trans hc,hz⟩
def zb (cs:Array Value) (m:Nat):Bool:=cs.toList.all fun | .string x=>decide (x.size≤m) | _=>false
def intsIn (cs:Array Value) (lo hi:Int):Bool:=cs.toList.all fun | .int .i64 x=>decide (lo≤x) && decide (x≤hi) | _=>false
theorem rX {cs:Array Value} {m:Nat} (h:zb cs m=true) (k:Nat) (hk:k < cs.size):∃ x:ByteArray,cs[k]? =some (.string x)∧x.size≤m:=by
 have hm:cs[k]∈cs.toList:=Array.mem_toList_iff.2 (Array.getElem_mem hk);have:=List.all_eq_true.1 h _ hm;split at this
 · rename_i x e;exact ⟨x,by rw [Array.getElem?_eq_getElem hk,e],by simpa using this⟩
 · cases this
theorem rY {cs:Array Value} {lo hi:Int} (h:intsIn cs lo hi=true) (k:Nat) (hk:k < cs.size):∃ x:Int,cs[k]? =some (.int .i64 x)∧lo≤x∧x≤hi:=by
 have hm:cs[k]∈cs.toList:=Array.mem_toList_iff.2 (Array.getElem_mem hk);have:=List.all_eq_true.1 h _ hm;split at this
 · rename_i x e;simp at this;exact ⟨x,by rw [Array.getElem?_eq_getElem hk,e],this.1,this.2⟩
 · cases this
def zY (w:World) (base g:Nat) (b:Int) (m:Nat) (e:Ending) (w' :World):Prop:=∃ x:ByteArray,e= .returned (.string x)∧x.size≤m∧aX w' base g b∧w.grownBy w' (some g)
def De (w:World) (base g:Nat) (b lo hi:Int) (e:Ending) (w' :World):Prop:=∃ x:Int,e= .returned (.int .i64 x)∧lo≤x∧x≤hi∧aX w' base g b∧w.grownBy w' (some g)
theorem nJ {w w' :World} {g B:Nat} {cs:Array Value} {t:TypeId} {fr:Nat×Nat} (hg:w.grownBy w' (some g)) (hB:w.heap[B]? =some (.cells cs t fr)) (hne:B≠g) (k:Nat):w'.cell? ⟨B,k,none⟩=cs[k]? :=
 cell_of_row w' B k cs t fr ((hg.block B (Array.getElem?_eq_some_iff.1 hB).1 (fun e=>hne (by injection e))).trans hB)
theorem dQ (w:World) (base g:Nat) (b lo hi:Int) (h:aX w base g b) (hb:b≤1000000000000000) (h1:lo≤hi) (h2: -1000000≤lo) (h3:hi≤1000000):
  Calls Tryz.prog 38 #[.pointer (some ⟨g,0,none⟩), .int .i64 lo, .int .i64 hi] w (De w base g (b+1) lo hi):=by
 have H:=Hd h;have HB:=Hd hb;clear h hb;go_in;go_wp2_with fail;refine (jG _ base g b _ H.o HB.o (by omega) (by omega)).mono ?_;rintro e w1 ⟨x,rfl,hx0,hx1,hs,hg⟩;have HS:=Hd hs;clear hs;go_wp2_with fail;go_ret;exact ⟨_,rfl,by omega,by omega,HS.o,hg⟩
theorem jM (w:World) (base g B:Nat) (b:Int) (n m:Nat) (cs:Array Value) (t:TypeId) (fr:Nat×Nat) (h:aX w base g b) (hb:b≤1000000000000000) (hB:w.heap[B]? =some (.cells cs t fr)) (hne:B≠g)
  (hn:cs.size=n) (h1:1≤n) (h2:n≤1000) (hall:zb cs m=true):
  Calls Tryz.prog 15 #[.pointer (some ⟨g,0,none⟩), .slice (some ⟨B,0,none⟩) n n] w (zY w base g (b+1) m):=by
 have H:=Hd h;have HB:=Hd hb;have HBB:=Hd hB;have HN:=Hd hn;clear h hb hB hn;go_in;go_wp2_with fail;refine (jG _ base g b _ H.o HB.o (by omega) (by omega)).mono ?_;rintro e w1 ⟨x,rfl,hx0,hx1,hs,hg⟩;have HS:=Hd hs;clear hs;obtain ⟨k,rfl⟩:=Int.eq_ofNat_of_zero_le hx0;have hk:k < n:=by omega
 obtain ⟨y,hy,hym⟩:=rX hall k (by rw [HN.o];exact hk);have hc:=(nJ hg HBB.o hne k).trans hy;clear hy;go_wp2_with fail;go_ret;exact ⟨_,rfl,hym,HS.o,hg⟩
theorem fI (w:World) (base g B:Nat) (b:Int) (n:Nat) (lo hi:Int) (cs:Array Value) (t:TypeId) (fr:Nat×Nat) (h:aX w base g b) (hb:b≤1000000000000000) (hB:w.heap[B]? =some (.cells cs t fr)) (hne:B≠g)
  (hn:cs.size=n) (h1:1≤n) (h2:n≤1000) (hall:intsIn cs lo hi=true):
  Calls Tryz.prog 61 #[.pointer (some ⟨g,0,none⟩), .slice (some ⟨B,0,none⟩) n n] w (De w base g (b+1) lo hi):=by
 have H:=Hd h;have HB:=Hd hb;have HBB:=Hd hB;have HN:=Hd hn;clear h hb hB hn;go_in;go_wp2_with fail;refine (jG _ base g b _ H.o HB.o (by omega) (by omega)).mono ?_;rintro e w1 ⟨x,rfl,hx0,hx1,hs,hg⟩;have HS:=Hd hs;clear hs;obtain ⟨k,rfl⟩:=Int.eq_ofNat_of_zero_le hx0;have hk:k < n:=by omega
 obtain ⟨y,hy,hy0,hy1⟩:=rY hall k (by rw [HN.o];exact hk);have hc:=(nJ hg HBB.o hne k).trans hy;clear hy;go_wp2_with fail;go_ret;exact ⟨_,rfl,hy0,hy1,HS.o,hg⟩
theorem xn (w:World) (base g:Nat) (b:Int) (h:aX w base g b) (hb:b≤100000000000000):
   Calls Tryz.prog 108 #[.pointer (some ⟨g,0,none⟩)] w (zY w base g (b+2) 13):=by
 have H:=Hd h;have HB:=Hd hb;clear h hb;go_in;go_wp2_with fail;refine (jG _ base g b _ H.o (by have:=HB.o;omega) (by omega) (by omega)).mono ?_;rintro e w1 ⟨x,rfl,hx0,hx1,hs,hg⟩;have HS:=Hd hs;have hlt:g < w1.heap.size:=dn hs;clear hs;by_cases hx:x=19
 · have hxb:(x == 19)=true:=(by simpa using hx);clear hx;go_wp2_with fail;refine (jM _ base g w1.heap.size (b+1) 8 13 _ 9 (0,0) (HS.o.alloc _) (by have:=HB.o;omega) (heap_alloc_new w1 _) (by omega) rfl (by omega) (by omega) rfl).mono ?_;rintro e w2 ⟨y,rfl,hym,hs2,hg2⟩;have HS2:=Hd hs2;clear hs2;go_wp2_with fail;go_ret;exact ⟨_,rfl,hym,HS2.o.more (by omega),(bC hg _).trans hg2⟩
 · have hxb:(x == 19)=false:=(by simpa using hx);clear hx;go_wp2_with fail;refine (jM _ base g w1.heap.size (b+1) 6 13 _ 9 (0,0) (HS.o.alloc _) (by have:=HB.o;omega) (heap_alloc_new w1 _) (by omega) rfl (by omega) (by omega) rfl).mono ?_;rintro e w2 ⟨y,rfl,hym,hs2,hg2⟩;have HS2:=Hd hs2;clear hs2;go_wp2_with fail;go_ret;exact ⟨_,rfl,hym,HS2.o.more (by omega),(bC hg _).trans hg2⟩
theorem xu (w:World) (base g:Nat) (b:Int) (h:aX w base g b) (hb:b≤10000000000000):
  Calls Tryz.prog 88 #[.pointer (some ⟨g,0,none⟩)] w (zY w base g (b+20) 60):=by
 have H:=Hd h;have HB:=Hd hb;clear h hb;go_in;go_wp2_with fail;refine (jG _ base g b _ H.o (by have:=HB.o;omega) (by omega) (by omega)).mono ?_;rintro e w1 ⟨x,rfl,hx0,hx1,hs,hg⟩;have HS:=Hd hs;have hlt1:g < w1.heap.size:=dn hs;clear hs;go_wp2_with fail;all_goals
  refine (fI _ base g w1.heap.size (b+1) 7 0 4 _ 3 (0,0) (HS.o.alloc _) (by have:=HB.o;omega) (heap_alloc_new w1 _) (by omega) rfl (by omega) (by omega) rfl).mono ?_;rintro e w2 ⟨n,rfl,hn0,hn1,hs2,hg2⟩;obtain ⟨n0,rfl⟩:=Int.eq_ofNat_of_zero_le hn0;have HS2:=Hd hs2;have hgf:=(bC hg (.cells #[.int .i64 1, .int .i64 1, .int .i64 2, .int .i64 2, .int .i64 3, .int .i64 0, .int .i64 4] 3)).trans hg2;clear hs2 hg2 hg;go_wp2_with fail;go_loopw [3,5] (fun v i wr=>∃ (T:ByteArray) (k:Nat),v= .string T∧i= .int .i64 (k:Int)∧k≤n0∧T.size≤1+14 * k∧w.grownBy wr (some g)∧Hid (aX wr base g (b+2+3 * k))) (fun _ i _=>n0 - (intOf i).toNat);case atStart=>exact ⟨_,0,rfl,rfl,Nat.zero_le _,by decide,hgf,HS2.o.more (by omega)⟩
  case round=>
   obtain ⟨T,k,rfl,rfl,hk,hT,hgr,hsr⟩:=hrel;clear hgf HS2 HS;have hT4:T.size≤100:=(by omega);by_cases hkn:k < n0
   · by_cases hk0:0 < k;all_goals
       go_wp2_with fail;refine (jG _ base g (b+2+3 * k) _ hsr.o (by have:=HB.o;omega) (by omega) (by omega)).mono ?_;rintro e w3 ⟨y,rfl,hy0,hy1,hs3,hg3⟩;have HS3:=Hd hs3;have hg3' :=hgr.trans hg3;have hlt3:g < w3.heap.size:=dn hs3;clear hs3 hg3;by_cases hy:y=7
       · have hyb:(y == 7)=true:=(by simpa using hy);clear hy;go_wp2_with fail;refine (jM _ base g w3.heap.size (b+2+3 * k+1) 4 13 _ 9 (0,0) (HS3.o.alloc _) (by have:=HB.o;omega) (heap_alloc_new w3 _) (by omega) rfl (by omega) (by omega) rfl).mono ?_;rintro e w4 ⟨z,rfl,hzm,hs4,hg4⟩;have HS4:=Hd hs4;have Iq:=(bC hg3' (.cells #[.string ⟨#[46]⟩, .string ⟨#[46,46]⟩, .string ⟨#[]⟩, .string ⟨#[97,47,47,98]⟩] 9)).trans hg4;clear hs4 hg4;go_wp2_with fail;go_roundw;case rel=>exact ⟨_,k+1,rfl,by go_num,by omega,by simp only [ByteArray.size_append];first | omega | (show _+1+_≤_;omega),Iq,HS4.o.more (by omega)⟩
         case measure=>simp [intOf];omega
       · have hyb:(y == 7)=false:=(by simpa using hy);clear hy;go_wp2_with fail;refine (xn _ base g (b+2+3 * k+1) HS3.o (by have:=HB.o;omega)).mono ?_;rintro e w4 ⟨z,rfl,hzm,hs4,hg4⟩;have HS4:=Hd hs4;have Iq:=hg3'.trans hg4;clear hs4 hg4;go_wp2_with fail;go_roundw;case rel=>exact ⟨_,k+1,rfl,by go_num,by omega,by simp only [ByteArray.size_append];first | omega | (show _+1+_≤_;omega),Iq,HS4.o.more (by omega)⟩
         case measure=>simp [intOf];omega
   · go_wp2_with fail;refine (jG _ base g (b+2+3 * k) _ hsr.o (by have:=HB.o;omega) (by omega) (by omega)).mono ?_;rintro e w3 ⟨y,rfl,hy0,hy1,hs3,hg3⟩;have HS3:=Hd hs3;have hg3' :=hgr.trans hg3;clear hs3 hg3;by_cases hy:y=7
     · have hyb:(y == 7)=true:=(by simpa using hy);clear hy;go_wp2_with fail;go_ret;exact ⟨_,rfl,by rw [ByteArray.size_append];show _+1≤_;omega,HS3.o.more (by omega),hg3'⟩
     · have hyb:(y == 7)=false:=(by simpa using hy);clear hy;go_wp2_with fail;go_ret;exact ⟨_,rfl,by omega,HS3.o.more (by omega),hg3'⟩
abbrev IY (nm:ByteArray) (kd nu:Int) (tx:ByteArray):Value:= .agg #[.string nm, .int .i64 kd, .int .i64 nu, .string tx]
def hasB (m:Nat) (n:Int):Bool:=decide (0≤n) && decide (n < 32) && m.testBit n.toNat
def LC (c:UInt8):Bool:=decide (48≤c.toNat) && decide (c.toNat≤57)
def LF (l:List UInt8):Nat:=l.foldl (fun v c=>10 * v+(c.toNat - 48)) 0
def Ey (l:List UInt8):Bool:=decide (1≤l.length) && decide (l.length≤4) && !(l.head? == some 48 && decide (1 < l.length))
def Jb (s:ByteArray):Option Nat:=if Ey s.data.toList && s.data.toList.all LC then some (LF s.data.toList) else none
def xJ (c:UInt8) (s:ByteArray):List ByteArray:=Lib.splitB ⟨#[c]⟩ 0 (Lib.countB s ⟨#[c]⟩) s
def Jc:List ByteArray→Option (Nat×Nat)
 | [x]=>(Jb x).map fun n=>(n,n)
 | [x,y]=>match Jb x,Jb y with
  | some a,some b=>if a≤b then some (a,b) else none
  | _,_=>none
 | _=>none
def Jd (s:ByteArray):Option (Nat×Nat):=Jc (xJ 45 s)
def nums (x:ByteArray):List Nat:=match Jd x with
 | some (a,b)=>List.range' a (min (b+1) 32 - a)
 | none=> []
structure ky where
 name:ByteArray
 nums:Nat
 kF:Nat
 least:Nat
 most:Nat
def mR:List ky:= [
 ⟨⟨#[102,111,114,107]⟩,0,0,0,0⟩,
 ⟨⟨#[101,120,101,99,118,101]⟩,0,1,0,4⟩,
 ⟨⟨#[101,120,105,116]⟩,1,0,0,0⟩,
 ⟨⟨#[115,101,116,117,105,100]⟩,1,0,0,0⟩,
 ⟨⟨#[115,101,116,103,105,100]⟩,1,0,0,0⟩,
 ⟨⟨#[108,111,103,105,110]⟩,1,0,0,0⟩,
 ⟨⟨#[111,112,101,110]⟩,2,1,0,0⟩,
 ⟨⟨#[99,108,111,115,101]⟩,1,0,0,0⟩,
 ⟨⟨#[108,105,110,107]⟩,0,2,0,0⟩,
 ⟨⟨#[115,121,109,108,105,110,107]⟩,0,1,1,1⟩,
 ⟨⟨#[117,110,108,105,110,107]⟩,0,1,0,0⟩,
 ⟨⟨#[109,107,100,105,114]⟩,1,1,0,0⟩,
 ⟨⟨#[114,109,100,105,114]⟩,0,1,0,0⟩,
 ⟨⟨#[114,101,110,97,109,101]⟩,0,2,0,0⟩,
 ⟨⟨#[99,104,109,111,100]⟩,1,1,0,0⟩,
 ⟨⟨#[99,104,111,119,110]⟩,2,1,0,0⟩,
 ⟨⟨#[99,104,100,105,114]⟩,0,1,0,0⟩,
 ⟨⟨#[109,111,117,110,116]⟩,1,1,0,0⟩,
 ⟨⟨#[117,109,111,117,110,116]⟩,1,0,0,0⟩,
 ⟨⟨#[99,111,110,110,101,99,116]⟩,1,0,1,1⟩,
 ⟨⟨#[107,105,108,108]⟩,2,0,0,0⟩,
 ⟨⟨#[116,114,117,110,99,97,116,101]⟩,1,1,0,0⟩]
def ky.cells (k:IntKind) (r:ky):List Value:= [.string r.name, .int k r.nums, .int k r.kF, .int k r.least, .int k r.most]
def ky.val (k:IntKind) (r:ky):Value:= .agg #[.string r.name, .int k r.nums, .int k r.kF, .int k r.least, .int k r.most]
def dY (n:Nat):ky:=mR.getD n ⟨⟨#[]⟩,0,0,0,0⟩
def dE (z:Int):ky:=if z < 0 then ⟨⟨#[]⟩,0,0,0,0⟩ else dY z.toNat
def cB (k:IntKind):Array Value:=((mR.map (ky.cells k)).flatten).toArray
theorem oz (k:IntKind) (n:Nat) (h:n < 22):(cB k)[n * 5]? =some (.string (dY n).name)∧(cB k)[n * 5+1]? =some (.int k (dY n).nums)∧(cB k)[n * 5+2]? =some (.int k (dY n).kF)∧(cB k)[n * 5+3]? =some (.int k (dY n).least)∧(cB k)[n * 5+4]? =some (.int k (dY n).most):=by
 have H:∀ m:Fin 22,(cB k)[m.val * 5]? =some (.string (dY m).name)∧(cB k)[m.val * 5+1]? =some (.int k (dY m).nums)∧(cB k)[m.val * 5+2]? =some (.int k (dY m).kF)∧(cB k)[m.val * 5+3]? =some (.int k (dY m).least)∧(cB k)[m.val * 5+4]? =some (.int k (dY m).most):=by
  intro m
  match m with
  | ⟨0,_⟩=>exact ⟨rfl,rfl,rfl,rfl,rfl⟩
  | ⟨1,_⟩=>exact ⟨rfl,rfl,rfl,rfl,rfl⟩
  | ⟨2,_⟩=>exact ⟨rfl,rfl,rfl,rfl,rfl⟩
  | ⟨3,_⟩=>exact ⟨rfl,rfl,rfl,rfl,rfl⟩
  | ⟨4,_⟩=>exact ⟨rfl,rfl,rfl,rfl,rfl⟩
  | ⟨5,_⟩=>exact ⟨rfl,rfl,rfl,rfl,rfl⟩
  | ⟨6,_⟩=>exact ⟨rfl,rfl,rfl,rfl,rfl⟩
  | ⟨7,_⟩=>exact ⟨rfl,rfl,rfl,rfl,rfl⟩
  | ⟨8,_⟩=>exact ⟨rfl,rfl,rfl,rfl,rfl⟩
  | ⟨9,_⟩=>exact ⟨rfl,rfl,rfl,rfl,rfl⟩
  | ⟨10,_⟩=>exact ⟨rfl,rfl,rfl,rfl,rfl⟩
  | ⟨11,_⟩=>exact ⟨rfl,rfl,rfl,rfl,rfl⟩
  | ⟨12,_⟩=>exact ⟨rfl,rfl,rfl,rfl,rfl⟩
  | ⟨13,_⟩=>exact ⟨rfl,rfl,rfl,rfl,rfl⟩
  | ⟨14,_⟩=>exact ⟨rfl,rfl,rfl,rfl,rfl⟩
  | ⟨15,_⟩=>exact ⟨rfl,rfl,rfl,rfl,rfl⟩
  | ⟨16,_⟩=>exact ⟨rfl,rfl,rfl,rfl,rfl⟩
  | ⟨17,_⟩=>exact ⟨rfl,rfl,rfl,rfl,rfl⟩
  | ⟨18,_⟩=>exact ⟨rfl,rfl,rfl,rfl,rfl⟩
  | ⟨19,_⟩=>exact ⟨rfl,rfl,rfl,rfl,rfl⟩
  | ⟨20,_⟩=>exact ⟨rfl,rfl,rfl,rfl,rfl⟩
  | ⟨21,_⟩=>exact ⟨rfl,rfl,rfl,rfl,rfl⟩
  | ⟨m+22,h⟩=>omega
 exact H ⟨n,h⟩
theorem ry (n:Nat):(dY n).nums≤2∧(dY n).kF≤2∧(dY n).least≤1∧(dY n).most≤4∧(dY n).name.size≤8:=by
 by_cases h:n < 22
 · have H:∀ m:Fin 22,(dY m).nums≤2∧(dY m).kF≤2∧(dY m).least≤1∧(dY m).most≤4∧(dY m).name.size≤8:=(by decide+kernel);exact H ⟨n,h⟩
 · have:dY n=⟨⟨#[]⟩,0,0,0,0⟩:=by
    unfold dY;rw [List.getD_eq_getElem?_getD,List.getElem?_eq_none (by show 22≤n;omega)];rfl
   rw [this];decide
def Calls10 (w:World):Prop:=rW w 2 (cB .u8)
theorem Calls10.below {B:Nat} {w w' :World} (h:Calls10 w) (hb:Below B w w') (hB:w.heap.size≤B):Calls10 w' :=rW.below h hb hB
def dZ (z:Int):Bool:=decide (0≤z) && decide (z < 22)
attribute [local irreducible] dY cB
theorem uO (z:Int) (w:World):Calls Tryz.prog 155 #[.int .i64 z] w fun e w' =>e= .returned (.bool (dZ z))∧w=w' :=by
 by_cases h0:0≤z
 · by_cases h1:z < 22
   · have H:=Hd (show dZ z=true by unfold dZ;simp [h0,h1]);go_in
     go_wp2
     go_ret;exact ⟨by rw [H.o];rfl,rfl⟩
   · have H:=Hd (show dZ z=false by unfold dZ;simp;omega);go_in
     go_wp2
     go_ret;exact ⟨by rw [H.o];rfl,rfl⟩
 · have H:=Hd (show dZ z=false by unfold dZ;simp;omega);go_in
   go_wp2
   go_ret;exact ⟨by rw [H.o];rfl,rfl⟩
theorem Ji (n:Nat) (hn:n < 22) (w:World) (hc:Calls10 w):Calls Tryz.prog 92 #[.int .i64 (n:Int)] w fun e w' =>e= .returned (.string (dY n).name)∧w=w' :=by
 have hx:dZ (n:Int)=true:=by unfold dZ;simp;omega
 have HX:=Hd hx;have c0:=(hc.cell (n * 5)).trans (oz .u8 n hn).1;clear hc hx;go_in;go_wp2_with fail;refine (uO _ _).mono ?_;rintro e w' ⟨rfl,rfl⟩;rw [HX.o];go_wp2_with fail;go_ret;exact ⟨rfl,rfl⟩
theorem uP (z:Int) (hz:z < 0∨22≤z) (w:World):Calls Tryz.prog 92 #[.int .i64 z] w fun e w' =>e= .returned (.string ⟨#[]⟩)∧w=w' :=by
 have HX:=Hd (show dZ z=false by unfold dZ;simp;omega);clear hz;go_in;go_wp2_with fail;refine (uO _ _).mono ?_;rintro e w' ⟨rfl,rfl⟩;rw [HX.o];go_wp2_with fail;go_ret;exact ⟨rfl,rfl⟩
end Go.Proofs.YtollifnnpihfdaaGreatDoor
namespace Go.Proofs.YtollifnnpihfdaaGreatDoor
open Go.RowKit
theorem rz:cB .i64=#[.string ⟨#[102,111,114,107]⟩, .int .i64 0, .int .i64 0, .int .i64 0, .int .i64 0, .string ⟨#[101,120,101,99,118,101]⟩, .int .i64 0, .int .i64 1, .int .i64 0, .int .i64 4, .string ⟨#[101,120,105,116]⟩, .int .i64 1, .int .i64 0, .int .i64 0, .int .i64 0, .string ⟨#[115,101,116,117,105,100]⟩, .int .i64 1, .int .i64 0, .int .i64 0, .int .i64 0, .string ⟨#[115,101,116,103,105,100]⟩, .int .i64 1, .int .i64 0, .int .i64 0, .int .i64 0, .string ⟨#[108,111,103,105,110]⟩, .int .i64 1, .int .i64 0, .int .i64 0, .int .i64 0, .string ⟨#[111,112,101,110]⟩, .int .i64 2, .int .i64 1, .int .i64 0, .int .i64 0, .string ⟨#[99,108,111,115,101]⟩, .int .i64 1, .int .i64 0, .int .i64 0, .int .i64 0, .string ⟨#[108,105,110,107]⟩, .int .i64 0, .int .i64 2, .int .i64 0, .int .i64 0, .string ⟨#[115,121,109,108,105,110,107]⟩, .int .i64 0, .int .i64 1, .int .i64 1, .int .i64 1, .string ⟨#[117,110,108,105,110,107]⟩, .int .i64 0, .int .i64 1, .int .i64 0, .int .i64 0, .string ⟨#[109,107,100,105,114]⟩, .int .i64 1, .int .i64 1, .int .i64 0, .int .i64 0, .string ⟨#[114,109,100,105,114]⟩, .int .i64 0, .int .i64 1, .int .i64 0, .int .i64 0, .string ⟨#[114,101,110,97,109,101]⟩, .int .i64 0, .int .i64 2, .int .i64 0, .int .i64 0, .string ⟨#[99,104,109,111,100]⟩, .int .i64 1, .int .i64 1, .int .i64 0, .int .i64 0, .string ⟨#[99,104,111,119,110]⟩, .int .i64 2, .int .i64 1, .int .i64 0, .int .i64 0, .string ⟨#[99,104,100,105,114]⟩, .int .i64 0, .int .i64 1, .int .i64 0, .int .i64 0, .string ⟨#[109,111,117,110,116]⟩, .int .i64 1, .int .i64 1, .int .i64 0, .int .i64 0, .string ⟨#[117,109,111,117,110,116]⟩, .int .i64 1, .int .i64 0, .int .i64 0, .int .i64 0, .string ⟨#[99,111,110,110,101,99,116]⟩, .int .i64 1, .int .i64 0, .int .i64 1, .int .i64 1, .string ⟨#[107,105,108,108]⟩, .int .i64 2, .int .i64 0, .int .i64 0, .int .i64 0, .string ⟨#[116,114,117,110,99,97,116,101]⟩, .int .i64 1, .int .i64 1, .int .i64 0, .int .i64 0]:=rfl
attribute [local irreducible] cB dY
theorem zy (w:World):Calls Tryz.prog 110 #[] w fun e w' =>e= .returned (.slice (some ⟨w.heap.size,0,none⟩) 22 22)∧rW w' w.heap.size (cB .i64)∧Below w.heap.size w w' :=by
 go_in
 go_wp2
 go_ret;exact ⟨rfl,⟨147,(0,0),(heap_alloc_new w _).trans (congrArg (fun c=>some (Obj.cells c 147 (0,0))) rz.symm)⟩,(Below.refl _ _).alloc (Nat.le_refl _) _⟩
end Go.Proofs.YtollifnnpihfdaaGreatDoor
namespace Go.Proofs.YtollifnnpihfdaaGreatDoor
open Go.RowKit
theorem oC {fn:Func} {a b c d:Tmp} (h:fn.results=#[.tmp a, .tmp b, .tmp c, .tmp d]) (tmps:Array Value) (P:Program) (w:World):
  (results fn tmps).run P w= .ok (.tuple #[tmps.getD a undef,tmps.getD b undef,tmps.getD c undef,tmps.getD d undef]) w:=by
 simp [results,h]
attribute [local irreducible] dY cB
theorem zz (w:World):Calls Tryz.prog 109 #[] w fun e w' =>e= .returned (.int .i64 22)∧Below w.heap.size w w' :=by
 go_in;go_wp2_with fail;refine (zy _).mono ?_;rintro e w1 ⟨rfl,_,hb⟩;go_wp2_with fail;go_ret;exact ⟨rfl,hb⟩
end Go.Proofs.YtollifnnpihfdaaGreatDoor
namespace Go.Proofs.YtollifnnpihfdaaGreatDoor
open Go.ChangeShapes Go.WideShapes Go.RowKit Go.Joins Go.Deep
theorem chunks {α:Type} {c:Nat} :∀ {L:List (List α)} {cs:List α},cs.length=L.length * c→(∀ i (hi:i < L.length),(cs.drop (i * c)).take c=L[i])→cs=L.flatten
 | [],cs,h,_=>by simp at h;simp [h]
 | x :: L,cs,h,hi=>by
  have h0:=hi 0 (by simp);simp at h0;have hr:cs.drop c=L.flatten:=chunks (c:=c) (by rw [List.length_drop,h,List.length_cons,Nat.add_mul];omega) (fun i hlt=>by
   have:=hi (i+1) (by simp;omega);rw [List.drop_drop,show c+i * c=(i+1) * c by rw [Nat.add_mul];omega];simpa using this)
  rw [List.flatten_cons, ← hr, ← h0,List.take_append_drop]
section
variable {H:Type} {enc:TypeId×Value→H} {P:Program} {w:World} {base:Nat} {sp:Nat→Bool} {held:Bool}
theorem oI {cs:List Value} {j:Nat} {v:Value} (h:(cs.drop j).take 1= [v]):cs[j]? =some v:=by
 have:=congrArg (·[0]?) h;simpa [List.getElem?_take,List.getElem?_drop] using this
theorem aH {fuel:Nat} {t:TypeId} {f0 f1 f2 f3 f4:Field} {k:IntKind} {cs:List Value} {l:List UInt8} {a b c d:Int} {p:List MemPlace} (hs:P.underlying t=some (.struct #[f0,f1,f2,f3,f4])) (hone:oneCellFields P #[f0,f1,f2,f3,f4]=true) (hC:P.cellsOf t=5)
  (h0:P.underlying f0.type=some .string) (h1:P.underlying f1.type=some (.int k)) (h2:P.underlying f2.type=some (.int k)) (h3:P.underlying f3.type=some (.int k)) (h4:P.underlying f4.type=some (.int k))
  (h:DataW.trod enc P w base sp held fuel t cs=some (.agg [.lit (.string l), .lit (.int k a), .lit (.int k b), .lit (.int k c), .lit (.int k d)],p)):cs= [.string ⟨l.toArray⟩, .int k a, .int k b, .int k c, .int k d]:=by
 obtain ⟨xs,n,_,hx,hl,hlen,hg⟩:=DataW.trod_struct hs h;obtain ⟨o0,k0⟩:=hone_of hone 0 f0 rfl;obtain ⟨o1,k1⟩:=hone_of hone 1 f1 rfl;obtain ⟨o2,k2⟩:=hone_of hone 2 f2 rfl;obtain ⟨o3,k3⟩:=hone_of hone 3 f3 rfl;obtain ⟨o4,k4⟩:=hone_of hone 4 f4 rfl
 match xs,hlen with
 | [y0,y1,y2,y3,y4],_=>
  simp only [Prod.mk.injEq] at hx;have hx1:=hx.1;simp at hx1;obtain ⟨e0,e1,e2,e3,e4⟩:=hx1;have g0:=hg 0 f0 rfl;have g1:=hg 1 f1 rfl;have g2:=hg 2 f2 rfl;have g3:=hg 3 f3 rfl;have g4:=hg 4 f4 rfl;rw [o0,k0] at g0;rw [o1,k1] at g1;rw [o2,k2] at g2;rw [o3,k3] at g3;rw [o4,k4] at g4;simp only [List.getElem?_cons_zero,List.getElem?_cons_succ] at g0 g1 g2 g3 g4;obtain ⟨s,c0,z0,_⟩:=DataW.trod_string h0 g0;obtain ⟨n1,c1,z1,_⟩:=DataW.trod_int h1 g1;obtain ⟨n2,c2,z2,_⟩:=DataW.trod_int h2 g2;obtain ⟨n3,c3,z3,_⟩:=DataW.trod_int h3 g3;obtain ⟨n4,c4,z4,_⟩:=DataW.trod_int h4 g4;rw [z0] at e0;rw [z1] at e1;rw [z2] at e2;rw [z3] at e3;rw [z4] at e4;simp at e0 e1 e2 e3 e4;have q0:=oI c0;have q1:=oI c1;have q2:=oI c2;have q3:=oI c3;have q4:=oI c4;subst e1 e2 e3 e4;have es:s=⟨l.toArray⟩:=by rw [e0]
  subst es
  match cs,hl.trans hC with
  | [x0,x1,x2,x3,x4],_=>
   simp at q0 q1 q2 q3 q4;rw [q0,q1,q2,q3,q4]
theorem vC {fuel n c:Nat} {t e:TypeId} {cs:List Value} {ds:List (DataW H)} {p:List MemPlace} {L:List (List Value)} (ht:P.underlying t=some (.array n e)) (hce:P.cellsOf e=c) (hct:P.cellsOf t=n * c) (hL:L.length=n)
  (h:DataW.trod enc P w base sp held fuel t cs=some (.agg ds,p))
  (hel:∀ i (hi:i < L.length) m cs' d q,ds[i]? =some d→DataW.trod enc P w base sp held m e cs' =some (d,q)→cs' =L[i]):cs=L.flatten:=by
 obtain ⟨xs,m,_,hx,hl,hlen,hg⟩:=DataW.trod_array ht h;simp only [Prod.mk.injEq] at hx;have hx1:=hx.1;simp at hx1;refine chunks (c:=c) (by rw [hl,hct,hL]) fun i hi=>?_;have:=hg i (by omega);rw [hce] at this;have hxi:xs[i]? =some (xs[i]'(by omega)):=List.getElem?_eq_getElem (by omega);rw [hxi] at this;exact hel i hi m _ _ _ (by rw [hx1,List.getElem?_map,hxi];rfl) this
theorem oJ {P:Program} {W:World} {laid:List (String×DataW Unit)} {name:String} {ds:List (DataW Unit)} {g n c:Nat} {t e:TypeId} {L:List (List Value)} {cs:Array Value} (i:Nat)
   (hpl:(laid.all fun x=>x.2.handleName?.isNone)=true) (h:laidMetH P laid W) (hi:laid[i]? =some (name, .agg ds))
   (hg:P.globalNamed name=some g) (hty:(P.globals[g]?).map (·.type)=some t) (ht:P.underlying t=some (.array n e)) (hce:P.cellsOf e=c) (hct:P.cellsOf t=n * c) (hL:L.length=n) (hcs:cs=L.flatten.toArray)
   (hel:∀ (w:World) i (hi:i < L.length) m cs' d q,ds[i]? =some d→DataW.trod (fun _=>()) P w 0 (fun _=>true) false m e cs' =some (d,q)→cs' =L[i]):rW W g cs:=by
 rw [MakeChecks.laidMetH_plain _ _ _ hpl] at h;obtain ⟨ps,hv,_⟩:=h;obtain ⟨g',t',cs',fuel,p,hg',ht',hvar,hd⟩:=rU hv i name _ hi;obtain rfl:=Option.some.inj (hg.symm.trans hg');obtain rfl:=Option.some.inj (hty.symm.trans ht');have hc:=vC ht hce hct hL hd (hel W);unfold World.var? at hvar;rw [hg] at hvar;simp only [Option.bind_some] at hvar;split at hvar
 · rename_i cs2 tt fr he;injection hvar with hvar;subst hvar;refine ⟨tt,fr,by rw [he,hcs, ← hc]⟩
 · cases hvar
end
theorem cells_of_row (w:World) (i:Nat) (hi:i < (mR.map (ky.cells .u8)).length) (m:Nat) (cs' :List Value) (d:DataW Unit) (q:List MemPlace) (ds:List (DataW Unit)) (hds:DataW.agg ds=Rows.laid_kaudit_call_calls) (hd:ds[i]? =some d) (ht:DataW.trod (fun _=>()) Tryz.prog w 0 (fun _=>true) false m 237 cs' =some (d,q)):cs' =(mR.map (ky.cells .u8))[i]:=by
 have H:∀ k:Fin 22,ds[k.val]? =some d→cs' =(mR.map (ky.cells .u8))[k.val]'(by have:(mR.map (ky.cells .u8)).length=22:=rfl;omega):=by
  unfold Rows.laid_kaudit_call_calls at hds;injection hds with hds;subst hds;intro k hd
  match k with
  | ⟨0,_⟩=>exact aH Tryz.underlying237 (by kernel_rfl) (by kernel_rfl) Tryz.underlying9 Tryz.underlying5 Tryz.underlying5 Tryz.underlying5 Tryz.underlying5 (by cases hd;exact ht)
  | ⟨1,_⟩=>exact aH Tryz.underlying237 (by kernel_rfl) (by kernel_rfl) Tryz.underlying9 Tryz.underlying5 Tryz.underlying5 Tryz.underlying5 Tryz.underlying5 (by cases hd;exact ht)
  | ⟨2,_⟩=>exact aH Tryz.underlying237 (by kernel_rfl) (by kernel_rfl) Tryz.underlying9 Tryz.underlying5 Tryz.underlying5 Tryz.underlying5 Tryz.underlying5 (by cases hd;exact ht)
  | ⟨3,_⟩=>exact aH Tryz.underlying237 (by kernel_rfl) (by kernel_rfl) Tryz.underlying9 Tryz.underlying5 Tryz.underlying5 Tryz.underlying5 Tryz.underlying5 (by cases hd;exact ht)
  | ⟨4,_⟩=>exact aH Tryz.underlying237 (by kernel_rfl) (by kernel_rfl) Tryz.underlying9 Tryz.underlying5 Tryz.underlying5 Tryz.underlying5 Tryz.underlying5 (by cases hd;exact ht)
  | ⟨5,_⟩=>exact aH Tryz.underlying237 (by kernel_rfl) (by kernel_rfl) Tryz.underlying9 Tryz.underlying5 Tryz.underlying5 Tryz.underlying5 Tryz.underlying5 (by cases hd;exact ht)
  | ⟨6,_⟩=>exact aH Tryz.underlying237 (by kernel_rfl) (by kernel_rfl) Tryz.underlying9 Tryz.underlying5 Tryz.underlying5 Tryz.underlying5 Tryz.underlying5 (by cases hd;exact ht)
  | ⟨7,_⟩=>exact aH Tryz.underlying237 (by kernel_rfl) (by kernel_rfl) Tryz.underlying9 Tryz.underlying5 Tryz.underlying5 Tryz.underlying5 Tryz.underlying5 (by cases hd;exact ht)
  | ⟨8,_⟩=>exact aH Tryz.underlying237 (by kernel_rfl) (by kernel_rfl) Tryz.underlying9 Tryz.underlying5 Tryz.underlying5 Tryz.underlying5 Tryz.underlying5 (by cases hd;exact ht)
  | ⟨9,_⟩=>exact aH Tryz.underlying237 (by kernel_rfl) (by kernel_rfl) Tryz.underlying9 Tryz.underlying5 Tryz.underlying5 Tryz.underlying5 Tryz.underlying5 (by cases hd;exact ht)
  | ⟨10,_⟩=>exact aH Tryz.underlying237 (by kernel_rfl) (by kernel_rfl) Tryz.underlying9 Tryz.underlying5 Tryz.underlying5 Tryz.underlying5 Tryz.underlying5 (by cases hd;exact ht)
  | ⟨11,_⟩=>exact aH Tryz.underlying237 (by kernel_rfl) (by kernel_rfl) Tryz.underlying9 Tryz.underlying5 Tryz.underlying5 Tryz.underlying5 Tryz.underlying5 (by cases hd;exact ht)
  | ⟨12,_⟩=>exact aH Tryz.underlying237 (by kernel_rfl) (by kernel_rfl) Tryz.underlying9 Tryz.underlying5 Tryz.underlying5 Tryz.underlying5 Tryz.underlying5 (by cases hd;exact ht)
  | ⟨13,_⟩=>exact aH Tryz.underlying237 (by kernel_rfl) (by kernel_rfl) Tryz.underlying9 Tryz.underlying5 Tryz.underlying5 Tryz.underlying5 Tryz.underlying5 (by cases hd;exact ht)
  | ⟨14,_⟩=>exact aH Tryz.underlying237 (by kernel_rfl) (by kernel_rfl) Tryz.underlying9 Tryz.underlying5 Tryz.underlying5 Tryz.underlying5 Tryz.underlying5 (by cases hd;exact ht)
  | ⟨15,_⟩=>exact aH Tryz.underlying237 (by kernel_rfl) (by kernel_rfl) Tryz.underlying9 Tryz.underlying5 Tryz.underlying5 Tryz.underlying5 Tryz.underlying5 (by cases hd;exact ht)
  | ⟨16,_⟩=>exact aH Tryz.underlying237 (by kernel_rfl) (by kernel_rfl) Tryz.underlying9 Tryz.underlying5 Tryz.underlying5 Tryz.underlying5 Tryz.underlying5 (by cases hd;exact ht)
  | ⟨17,_⟩=>exact aH Tryz.underlying237 (by kernel_rfl) (by kernel_rfl) Tryz.underlying9 Tryz.underlying5 Tryz.underlying5 Tryz.underlying5 Tryz.underlying5 (by cases hd;exact ht)
  | ⟨18,_⟩=>exact aH Tryz.underlying237 (by kernel_rfl) (by kernel_rfl) Tryz.underlying9 Tryz.underlying5 Tryz.underlying5 Tryz.underlying5 Tryz.underlying5 (by cases hd;exact ht)
  | ⟨19,_⟩=>exact aH Tryz.underlying237 (by kernel_rfl) (by kernel_rfl) Tryz.underlying9 Tryz.underlying5 Tryz.underlying5 Tryz.underlying5 Tryz.underlying5 (by cases hd;exact ht)
  | ⟨20,_⟩=>exact aH Tryz.underlying237 (by kernel_rfl) (by kernel_rfl) Tryz.underlying9 Tryz.underlying5 Tryz.underlying5 Tryz.underlying5 Tryz.underlying5 (by cases hd;exact ht)
  | ⟨21,_⟩=>exact aH Tryz.underlying237 (by kernel_rfl) (by kernel_rfl) Tryz.underlying9 Tryz.underlying5 Tryz.underlying5 Tryz.underlying5 Tryz.underlying5 (by cases hd;exact ht)
  | ⟨k+22,h⟩=>exact absurd h (by omega)
 exact H ⟨i,hi⟩ hd
theorem calls_of_laid {W : World} {laid : List (String × DataW Unit)} (i : Nat) (hpl : (laid.all fun x => x.2.handleName?.isNone) = true) (h : laidMetH Tryz.prog laid W) (hi : laid[i]? = some ("kaudit/call.calls", Rows.laid_kaudit_call_calls)) : Calls10 W :=
 oJ (t:=238) (e:=237) (c:=5) (n:=22) (L:=mR.map (ky.cells .u8)) i hpl h hi rfl (by kernel_rfl) Tryz.underlying238 (by kernel_rfl) (by kernel_rfl) rfl rfl (fun w i hi m cs' d q hd ht=>cells_of_row w i hi m cs' d q _ rfl hd ht)
end Go.Proofs.YtollifnnpihfdaaGreatDoor
