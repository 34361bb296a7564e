import Derived.Test.YtollifnnpihfdaaGreatDoorG13
import Derived.Shelf.RegionOpen
import Derived.OwnWalkIn
import Derived.LoopNIn
import Derived.LoopIn
import Derived.Test.YtollifnnpihfdaaGreatDoorG09
set_option maxRecDepth 100000
set_option maxHeartbeats 64000000
set_option linter.all false
namespace Go.Proofs.YtollifnnpihfdaaGreatDoor
open Go.RowKit
attribute [local irreducible] dL
theorem GQ (w:World) (r:Rul) (v:Value):dF (w.alloc (.cells (bK r v) 90)) w.heap.size r v∧Below w.heap.size w (w.alloc (.cells (bK r v) 90)):=⟨Blk.new w _ _,(Below.refl _ _).alloc (Nat.le_refl _) _⟩
theorem gW {w:World} {g:Nat} {r:Rul} {v:Value} (h:dF w g r v):w.cell? ⟨g,0,none⟩=some (.int .i64 r.li)∧w.cell? ⟨g,1,none⟩=some (.int .i64 r.ac)∧w.cell? ⟨g,2,none⟩=some (.int .u64 (r.ca:Int))∧w.cell? ⟨g,3,none⟩=some v∧w.cell? ⟨g,4,none⟩=some (.int .i64 r.wa)∧w.cell? ⟨g,5,none⟩=some (.string r.pa)∧w.cell? ⟨g,6,none⟩=some (.int .i64 r.pe)∧w.cell? ⟨g,7,none⟩=some (.string r.ke):=
 ⟨h.c0,h.c1,h.c2,h.c3,h.c4,h.c5,h.c6,h.c7⟩
theorem jL {wa pe li:Int} {pa:ByteArray} (h:wa=0):dC wa pe li pa=decide (pa.size=0∧pe=0):=by unfold dC;rw [if_pos h]
theorem u7 {wa pe li:Int} {pa:ByteArray} (h:wa=1∨wa=2):dC wa pe li pa=(decide (li=3) && dL pa && decide (pa.size≤128∧1≤pe∧pe≤15)):=by unfold dC;rw [if_neg (by omega),if_pos h]
theorem ve {wa pe li:Int} {pa:ByteArray} (h0:wa≠0) (h1:wa≠1) (h2:wa≠2):dC wa pe li pa=false:=by unfold dC;rw [if_neg h0,if_neg (by omega)]
end Go.Proofs.YtollifnnpihfdaaGreatDoor
namespace Go.Proofs.YtollifnnpihfdaaGreatDoor
open Go.RowKit
theorem mW {r:Rul} (h:r.li < 1∨5 < r.li):bH r=130:=by unfold bH;rw [if_pos h]
theorem xS {r:Rul} (h0:1≤r.li∧r.li≤5) (h:r.ac≠1∧r.ac≠2):bH r=131:=by unfold bH;rw [if_neg (by omega),if_pos h]
def fu (r:Rul):Bool:=if cB r.li=true then decide (r.ca≠0∧r.ca < 4294967296) else decide (r.ca=0)
theorem jM {r:Rul} (h:cB r.li=true):fu r=decide (r.ca≠0∧r.ca < 4294967296):=by unfold fu;rw [if_pos h]
theorem kL {r:Rul} (h:cB r.li=false):fu r=decide (r.ca=0):=by unfold fu;rw [if_neg (by rw [h];decide)]
theorem sM {r:Rul} (h0:1≤r.li∧r.li≤5) (h1:r.ac=1∨r.ac=2) (h:fu r=false):bH r=132:=by
 unfold bH;rw [if_neg (by omega),if_neg (by omega)];cases hc:cB r.li
 · rw [kL hc] at h;rw [if_neg (by rintro ⟨a,_⟩;cases a),if_pos ⟨rfl,by simpa using h⟩]
 · rw [jM hc] at h;rw [if_pos ⟨rfl,by simp at h;omega⟩]
def jN (r:Rul):Int:=
 if 8 < r.ts.length then 133
 else if aZ r.ts r.li≠0 then aZ r.ts r.li
 else if dC r.wa r.pe r.li r.pa=false then 134
 else if 31 < r.ke.size then 135
 else 0
theorem vg {r:Rul} (h0:1≤r.li∧r.li≤5) (h1:r.ac=1∨r.ac=2) (h:fu r=true):bH r=jN r:=by
 unfold bH;rw [if_neg (by omega),if_neg (by omega)];cases hc:cB r.li
 · rw [kL hc] at h;rw [if_neg (by rintro ⟨a,_⟩;cases a),if_neg (by rintro ⟨_,b⟩;simp at h;exact b h)];rfl
 · rw [jM hc] at h;rw [if_neg (by rintro ⟨_,b⟩;simp at h;omega),if_neg (by rintro ⟨a,_⟩;cases a)];rfl
theorem zB {r:Rul} (h:8 < r.ts.length):jN r=133:=by unfold jN;rw [if_pos h]
theorem zC {r:Rul} (h0:¬ 8 < r.ts.length) {k:Nat} (hk:k < r.ts.length) (h1:aZ (r.ts.take k) r.li=0) (h:(r.ts[k]'hk).chk r.li≠0):jN r=(r.ts[k]'hk).chk r.li:=by
 have:=rV hk h1 h;unfold jN;rw [if_neg h0,if_pos (by rw [this];exact h),this]
theorem xU {r:Rul} (h0:¬ 8 < r.ts.length) (h1:aZ r.ts r.li=0) (h:dC r.wa r.pe r.li r.pa=false):jN r=134:=by
 unfold jN;rw [if_neg h0,if_neg (by rw [h1];simp),if_pos h]
theorem Dz {r:Rul} (h0:¬ 8 < r.ts.length) (h1:aZ r.ts r.li=0) (h2:dC r.wa r.pe r.li r.pa=true) (h:31 < r.ke.size):jN r=135:=by
 unfold jN;rw [if_neg h0,if_neg (by rw [h1];simp),if_neg (by rw [h2];decide),if_pos h]
theorem GR {r:Rul} (h0:¬ 8 < r.ts.length) (h1:aZ r.ts r.li=0) (h2:dC r.wa r.pe r.li r.pa=true) (h:¬ 31 < r.ke.size):jN r=0:=by
 unfold jN;rw [if_neg h0,if_neg (by rw [h1];simp),if_neg (by rw [h2];decide),if_neg h]
structure Jp (r:Rul):Prop where
 ca:r.ca < 18446744073709551616
 pa:r.pa.size≤100000
 ke:r.ke.size≤100000
 tx:∀ t∈r.ts,t.tx.size≤maxLen
 ln:r.ts.length≤1000000
theorem zD {m:Nat} (h:m < 4294967296):mM m=true:=by unfold mM;simpa using h
theorem zF {m:Nat} (h:¬ m < 4294967296):mM m=false:=by unfold mM;simpa using h
attribute [local irreducible] ai dC cB aZ jN bH dL
end Go.Proofs.YtollifnnpihfdaaGreatDoor
namespace Go.Proofs.YtollifnnpihfdaaGreatDoor
open Go.RowKit
theorem aY.cells {w:World} {B:Nat} {A:Option Addr} {ts:List Tst} (h:aY w B A ts) {k:Nat} (hk:k < ts.length):∃ ad:Addr,A=some ad∧ad.block < B∧w.cell? (ad.add (k * 5))=some (.int .i64 (ts[k]'hk).fd)∧w.cell? ⟨(ad.add (k * 5)).block,(ad.add (k * 5)).off+1,none⟩=some (.int .i64 (ts[k]'hk).op)∧w.cell? ⟨(ad.add (k * 5)).block,(ad.add (k * 5)).off+2,none⟩=some (.int .i64 (ts[k]'hk).nu)∧w.cell? ⟨(ad.add (k * 5)).block,(ad.add (k * 5)).off+3,none⟩=some (.string (ts[k]'hk).tx)∧w.cell? ⟨(ad.add (k * 5)).block,(ad.add (k * 5)).off+4,none⟩=some (.int .i64 (ts[k]'hk).ot):=by
 obtain ⟨ad,e,hl,hc⟩:=h k hk;exact ⟨ad,e,hl,zt hc⟩
theorem J5 {x:Int} (h:x≠0):(x != 0)=true:=by simpa using h
theorem xV (ts:List Tst) (l:Int):aZ (ts.take 0) l=0:=rfl
attribute [local irreducible] ai dC cB aZ jN bH dL
end Go.Proofs.YtollifnnpihfdaaGreatDoor
namespace Go.Proofs.YtollifnnpihfdaaGreatDoor
open Go.RowKit
theorem eqI (w:World) (d:Nat) (x y:Int):(Op.equalIn (d+1) 3 (.int .i64 x) (.int .i64 y)).run Tryz.prog w= .ok (x == y) w:=by
 simp [Op.equalIn,run_underlying Tryz.underlying3]
theorem eqS (w:World) (d:Nat) (x y:ByteArray):(Op.equalIn (d+1) 9 (.string x) (.string y)).run Tryz.prog w= .ok (x.toList == y.toList) w:=by
 simp [Op.equalIn,run_underlying Tryz.underlying9,beq_toListBytes]
theorem DJ {α β:Type} {l:List α} {g:α→β} {x0 x1 x2 x3:β} (h:l.map g= [x0,x1,x2,x3]):∃ f0 f1 f2 f3,l= [f0,f1,f2,f3]∧g f0=x0∧g f1=x1∧g f2=x2∧g f3=x3:=by
 have hl:=congrArg List.length h;simp at hl
 match l,hl with
 | [f0,f1,f2,f3],_=>
  simp at h;exact ⟨f0,f1,f2,f3,rfl,h.1,h.2.1,h.2.2.1,h.2.2.2⟩
theorem Oe (p:Pr) (w:World):(Op.equalIn 10000 79 (prV p) (prV p)).run Tryz.prog w= .ok true w:=by
 have hu:Tryz.prog.underlying 79=some (.struct (Tryz.prog.fieldsOf 79)):=by kernel_rfl
 have hs:Tryz.prog.stoodInHeld 79=false:=by kernel_rfl
 rw [run_equalIn_struct w 9999 _ _ _ hu hs];obtain ⟨a,b,c,d⟩:=p;have hm : (Tryz.prog.fieldsOf 79).toList.map (fun f => (f.name == "_", f.type, f.offset)) = [(false, 9, 0), (false, 3, 1), (false, 3, 2), (false, 9, 3)] := by kernel_rfl
 obtain ⟨f0,f1,f2,f3,hl,e0,e1,e2,e3⟩:=DJ hm;simp only [Prod.mk.injEq,beq_eq_false_iff_ne,ne_eq] at e0 e1 e2 e3;obtain ⟨n0,t0,o0⟩:=e0;obtain ⟨n1,t1,o1⟩:=e1;obtain ⟨n2,t2,o2⟩:=e2;obtain ⟨n3,t3,o3⟩:=e3;have p0:∀ (a d:ByteArray) (b c:Int) (w:World),(part 9 #[.string a, .int .i64 b, .int .i64 c, .string d] 0).run Tryz.prog w= .ok (.string a) w:=fun _ _ _ _ _=>by show _=_;kernel_rfl
 have p1:∀ (a d:ByteArray) (b c:Int) (w:World),(part 3 #[.string a, .int .i64 b, .int .i64 c, .string d] 1).run Tryz.prog w= .ok (.int .i64 b) w:=fun _ _ _ _ _=>by show _=_;kernel_rfl
 have p2:∀ (a d:ByteArray) (b c:Int) (w:World),(part 3 #[.string a, .int .i64 b, .int .i64 c, .string d] 2).run Tryz.prog w= .ok (.int .i64 c) w:=fun _ _ _ _ _=>by show _=_;kernel_rfl
 have p3:∀ (a d:ByteArray) (b c:Int) (w:World),(part 9 #[.string a, .int .i64 b, .int .i64 c, .string d] 3).run Tryz.prog w= .ok (.string d) w:=fun _ _ _ _ _=>by show _=_;kernel_rfl
 have ei:=fun x y w=>eqI w 9998 x y;have es:=fun x y w=>eqS w 9998 x y;rw [hl];simp only [Op.eqFields,n0,n1,n2,n3,not_false_eq_true,t0,t1,t2,t3,o0,o1,o2,o3,ne_eq,not_false_eq_true,if_true,Sem.run_bind,p0,Result.andThen_ok,ei,es];simp [p0,p1,p2,p3,ei,es]
theorem wK {w:World} {a:Addr} {p:Pr} (h:∀ j,j < 4→w.cell? (a.add j)=(EP.C p)[j]?):
  w.cell? a=some (.string p.nm)∧w.cell? ⟨a.block,a.off+1,none⟩=some (.int .i64 p.kd)∧w.cell? ⟨a.block,a.off+2,none⟩=some (.int .i64 p.nu)∧w.cell? ⟨a.block,a.off+3,none⟩=some (.string p.tx):=
 ⟨h 0 (by omega),h 1 (by omega),h 2 (by omega),h 3 (by omega)⟩
theorem DK {w:World} {a:Addr} {x:Rm} (h:∀ j,j < 4→w.cell? (a.add j)=(ER.C x)[j]?):
  w.cell? a=some (.int .i64 x.r.ty)∧w.cell? ⟨a.block,a.off+1,none⟩=some (.int .i64 x.r.ti)∧w.cell? ⟨a.block,a.off+2,none⟩=some (.int .i64 x.r.se)∧w.cell? ⟨a.block,a.off+3,none⟩=some (.slice x.A x.r.ps.length x.c):=
 ⟨h 0 (by omega),h 1 (by omega),h 2 (by omega),h 3 (by omega)⟩
theorem xX (A B:Option Addr) (n ca cb:Nat) (ps:List Pr) (hn:n=ps.length) (hl:n≤1000000) (w:World) (ha:AtE EP w w.heap.size A ps) (hb:AtE EP w w.heap.size B ps):
  Calls Tryz.prog 77 #[.slice A n ca, .slice B n cb] w fun e w' =>e= .returned (.bool true)∧Below w.heap.size w w' :=by
 have b1:((n:Int) != (n:Int))=false:=by simp
 have HN:=Hd hn;have HA:=Hd ha;have HB:=Hd hb;clear hn ha hb;go_in;go_wp2_with fail;go_loopw [5] (fun i wr=>∃ k:Nat,k≤n∧i= .int .i64 (k:Int)∧Below w.heap.size w wr) (fun i _=>n - (intOf i).toNat);case atStart=>exact ⟨0,Nat.zero_le _,rfl,Below.refl _ _⟩
 case round=>
  obtain ⟨k,hk,rfl,hbw⟩:=hrel;have HBW:=Hd hbw;by_cases hlt:k < n
  · have hkp:k < ps.length:=(by rw [← HN.o];exact hlt);obtain ⟨ad,rfl,_,hc⟩:=(HA.o.keep hbw (Nat.le_refl _)) k hkp;obtain ⟨bd,rfl,_,hd⟩:=(HB.o.keep hbw (Nat.le_refl _)) k hkp;obtain ⟨s0,s1,s2,s3⟩:=wK (a:=ad.add (k * 4)) hc;obtain ⟨u0,u1,u2,u3⟩:=wK (a:=bd.add (k * 4)) hd;have k0:(0:Int)≤(k:Int):=(by omega);have kn:(k:Int) < (n:Int):=(by omega);clear hbw hc hd;generalize ps[k]=p at *;have hq:=Oe p;go_wp2_with fail;go_quiet (fail);go_wp2_with fail;go_roundw;case rel=>exact ⟨k+1,by omega,by go_num,below_drewN HBW.o _⟩
    case measure=>simp [intOf];omega
  · have hkn:k=n:=(by omega);subst hkn;clear hlt hbw;go_wp2_with fail;go_ret;exact ⟨rfl,HBW.o⟩
theorem Ke (w:World) (x z:Rc) (v u:Value):RcB ((w.alloc (.cells (rcC x v) 77)).alloc (.cells (rcC z u) 77)) w.heap.size x v∧RcB ((w.alloc (.cells (rcC x v) 77)).alloc (.cells (rcC z u) 77)) (w.heap.size+1) z u∧Below w.heap.size w ((w.alloc (.cells (rcC x v) 77)).alloc (.cells (rcC z u) 77)):=by
 refine ⟨(Blk.new w _ _).alloc _,?_,((Below.refl _ _).alloc (Nat.le_refl _) _).alloc (by simp) _⟩;have:=Blk.new (w.alloc (.cells (rcC x v) 77)) (rcC z u) 77;simpa using this
theorem Og (r:Rc) (A B:Option Addr) (n ca cb:Nat) (hn:n=r.ps.length) (hl:n≤1000000) (w:World) (ha:AtE EP w w.heap.size A r.ps) (hb:AtE EP w w.heap.size B r.ps):
  Calls Tryz.prog 31 #[rcV r (.slice A n ca),rcV r (.slice B n cb)] w fun e w' =>e= .returned (.bool true)∧Below w.heap.size w w' :=by
 obtain ⟨x1,x2,hb0⟩:=Ke w r r (.slice A n ca) (.slice B n cb);have HS:=Hd (xX A B n ca cb r.ps hn hl _ (ha.below hb0) (hb.below hb0));have HB0:=Hd hb0;have c0:=x1.cell 0;have c1:=x1.cell 1;have c2:=x1.cell 2;have c3:=x1.cell 3;have d0:=x2.cell 0;have d1:=x2.cell 1;have d2:=x2.cell 2;have d3:=x2.cell 3;have t1:(r.ty == r.ty)=true:=by simp
 have t2:(r.ti == r.ti)=true:=by simp
 have t3:(r.se == r.se)=true:=by simp
 clear x1 x2 hb0 ha hb hn;go_in;go_wp2_with fail;refine HS.o.mono ?_;rintro e w1 ⟨rfl,hb1⟩;have HB1:=Hd (aa HB0.o hb1);clear hb1;go_wp2_with fail;go_ret;exact ⟨rfl,HB1.o⟩
theorem zM (w:World):ax EP (w.alloc (.cells #[] 79)) w.heap.size (.slice (some ⟨w.heap.size,0,none⟩) 0 0) []:=
 ⟨rfl, .inr ⟨w.heap.size,0,#[],rfl,Nat.le_refl _,heap_alloc_new w _,Nat.le_refl _,by unfold maxLen;omega,rfl,rfl⟩⟩
theorem Kg (ad:Addr) (n c:Nat) (w:World):(binOp .eql 75 (.slice (some ad) n c) (.slice none 0 0)).run Tryz.prog w= .ok (.bool false) w:=by show _=_;kernel_rfl
theorem GX (n c:Nat) (w:World):(binOp .eql 75 (.slice none n c) (.slice none 0 0)).run Tryz.prog w= .ok (.bool true) w:=by show _=_;kernel_rfl
def zN (n:Nat) (ps:List Pr) (w:World) (e:Ending) (w' :World):Prop:=∃ (A:Option Addr) (c:Nat),e= .returned (.slice A n c)∧ax EP w' w.heap.size (.slice A n c) ps∧Below w.heap.size w w'
theorem zO {w w' :World} {o:Obj} (h:(w.alloc o).grownBy w' (Value.slice (some ⟨w.heap.size,0,none⟩) 0 0).ownBlock):Below w.heap.size w w' :=
 ((Below.refl w.heap.size w).alloc (Nat.le_refl _) o).trans ⟨h.os,h.tape,h.output,h.size,fun i hi=>h.block i (by simp;omega) (fun e=>by injection e with e;simp at e;omega)⟩
theorem FB (A:Option Addr) (n c:Nat) (ps:List Pr) (hn:n=ps.length) (hl:n≤1000) (w:World) (h:AtE EP w w.heap.size A ps):
   Calls Tryz.prog 66 #[.slice A n c] w (zN n ps w):=by
 subst hn;rcases A with _ | ad
 · have hM:ps= []:=by
    cases ps with
    | nil=>rfl
    | cons s r=>obtain ⟨ad,e,_⟩:=h 0 (by simp);cases e
   subst hM;clear h hl;have hq:=GX 0 c;go_in;go_wp2_with fail;go_ret;exact ⟨none,0,rfl,ax.nil _ _,Below.refl _ _⟩
 · have HB:=Hd (show Below w.heap.size w (w.alloc (.cells #[] 79)) from (Below.refl _ _).alloc (Nat.le_refl _) _);have HA:=Hd (h.below HB.o);clear h;have hq:=Kg ad ps.length c;go_in;go_wp2_with (refine ah EP rfl (.tmp 5) (.tmp 6) rfl w.heap.size (.slice (some ⟨w.heap.size,0,none⟩) 0 0) [] rfl (zM w) _ (some ad) ps.length c ps rfl rfl HA.o (by simp;omega) (by simp) ?_;intro v6 w6 ho6 hg6 gL);obtain ⟨A',c',e6,_⟩:=ax.at (show ax EP w6 w.heap.size v6 ps from ho6);subst e6;go_ret;exact ⟨A',c',rfl,ho6,zO hg6⟩
abbrev prA (p:Pr):Array Value:=#[.string p.nm, .int .i64 p.kd, .int .i64 p.nu, .string p.tx]
theorem FC (p:Pr):(prA p).all (·.oneCell')=true:=by simp [Value.oneCell']
theorem Kh (p:Pr):(Tryz.prog.info? 79).map (·.size)=some (prA p).size:=by show _=some 4;kernel_rfl
theorem gU {fn:Func} (h:fn.results=#[.cell 4 79]) (tmps:Array Value) (w:World) (g:Nat) (p:Pr) (hp:tmps.getD 4 undef= .pointer (some ⟨g,0,none⟩)) (hg:Blk w g 79 (prA p)):
  (results fn tmps).run Tryz.prog w= .ok (prV p) w:=
 results_cell_row h tmps w g _ (prA p) (0,0) _ hp hg Tryz.underlying79 rfl (by show _=some 4;kernel_rfl)
theorem gz (s:ByteArray) (n:Int) (w:World):Calls Tryz.prog 48 #[.string s, .int .i64 n] w fun e w' =>e= .returned (prV ⟨s,1,n,⟨#[]⟩⟩)∧Below w.heap.size w w' :=by
 go_in;go_wp2_with fail;refine bodyPost_ret (gU (fn:=Tryz.f48) rfl _ _ w.heap.size ⟨s,1,n,⟨#[]⟩⟩ rfl (Blk.new w _ _)) rfl ?_;exact ⟨rfl,(Below.refl _ _).alloc (Nat.le_refl _) _⟩
theorem Ki (s t:ByteArray) (ht:t.size≤640) (w:World):Calls Tryz.prog 47 #[.string s, .string t] w fun e w' =>e= .returned (prV ⟨s,2,0,t⟩)∧Below w.heap.size w w' :=by
 have h1:¬ (640:Int) < (t.size:Int):=by omega
 go_in;go_wp2_with fail;refine bodyPost_ret (gU (fn:=Tryz.f47) rfl _ _ w.heap.size ⟨s,2,0,t⟩ rfl (Blk.new w _ _)) rfl ?_;exact ⟨rfl,(Below.refl _ _).alloc (Nat.le_refl _) _⟩
theorem Kj (s:ByteArray) (w:World):Calls Tryz.prog 50 #[.string s, .string ⟨#[]⟩] w fun e w' =>e= .returned (prV ⟨s,3,0,⟨#[]⟩⟩)∧Below w.heap.size w w' :=by
 go_in;go_wp2_with fail;refine bodyPost_ret (gU (fn:=Tryz.f50) rfl _ _ w.heap.size ⟨s,3,0,⟨#[]⟩⟩ rfl (Blk.new w _ _)) rfl ?_;exact ⟨rfl,(Below.refl _ _).alloc (Nat.le_refl _) _⟩
theorem oP {P:Program} {w:World} {a:Addr} {ty:TypeId} {cs:Array Value} {d:TypeDesc} (h:∀ j v,cs.toList[j]? =some v→w.cell? (a.add j)=some v)
  (hu:P.underlying ty=some d) (hd:(match d with | .struct _ | .array _ _=>true | _=>false)=true) (hi:(P.info? ty).map (·.size)=some cs.size):
  (loadVar ty a).run P w= .ok (.agg cs) w:=by
 have hl:(loadCells a cs.toList.length).run P w= .ok cs.toList.toArray w:=run_loadCells_list (P:=P) w a cs.toList h;cases hq:P.info? ty with
 | none=>simp [hq] at hi
 | some i=>
  have hs:i.size=cs.size:=by simpa [hq] using hi
  have hagg:(isAgg ty).run P w= .ok true w:=by
   unfold isAgg;rw [Sem.run_bind,run_underlying hu w];cases d <;> simp_all
  simp only [Array.length_toList,Array.toArray_toList] at hl;simp [loadVar,Sem.run_bind,hagg,sizeOf,typeInfo,hq,hs,hl]
theorem lv3 (a:Addr) (w:World):(loadVar 3 a).run Tryz.prog w=(load a).run Tryz.prog w:=by
 unfold loadVar;simp [go_sem]
theorem DL (a:Addr) (w:World):(loadVar 65 a).run Tryz.prog w=(load a).run Tryz.prog w:=by
 unfold loadVar;simp [go_sem]
theorem DR (a:Addr) (w:World):(loadVar 38 a).run Tryz.prog w=(load a).run Tryz.prog w:=by
 unfold loadVar;simp [go_sem]
theorem Kk (g o j:Nat):(⟨g,o,none⟩:Addr).add j=⟨g,o+j,none⟩:=by
 unfold Addr.add;split
 · subst_vars;rfl
 · rfl
attribute [-go_sem] loadVar
attribute [local go_sem] lv3 DL DR
end Go.Proofs.YtollifnnpihfdaaGreatDoor
namespace Go.Proofs.YtollifnnpihfdaaGreatDoor
open Go.RowKit
def nuP (s:ByteArray) (n:Int):Pr:=⟨s,1,n,⟨#[]⟩⟩
def txP (s t:ByteArray):Pr:=if 640 < t.size then ⟨s,3,0,⟨#[]⟩⟩ else ⟨s,2,0,t⟩
def soP (s t:ByteArray):Pr:=if t.size=0 then ⟨s,3,0,⟨#[]⟩⟩ else txP s t
theorem wL {s t:ByteArray} (h:640 < t.size):txP s t=⟨s,3,0,⟨#[]⟩⟩:=if_pos h
theorem sW {s t:ByteArray} (h:¬ 640 < t.size):txP s t=⟨s,2,0,t⟩:=if_neg h
theorem ko {t:ByteArray} (h:¬ t.size=0):t.toList.isEmpty=false:=by
 cases hq:t.toList.isEmpty with
 | false=>rfl
 | true=>
  have e:=congrArg List.length (List.isEmpty_iff.1 hq);rw [ByteArray.toList_eq,Array.length_toList] at e;exact absurd e h
theorem Oh (s:ByteArray) (n:Int) (w:World):Calls Tryz.prog 48 #[.string s, .int .i64 n] w fun e w' =>e= .returned (prV (nuP s n))∧Below w.heap.size w w' :=gz s n w
theorem lF (s t:ByteArray) (w:World):Calls Tryz.prog 47 #[.string s, .string t] w fun e w' =>e= .returned (prV (txP s t))∧Below w.heap.size w w' :=by
 by_cases h:640 < t.size
 · rw [wL h];have h1:(640:Int) < (t.size:Int):=(by omega);go_in;go_wp2_with fail;refine bodyPost_ret (gU (fn:=Tryz.f47) rfl _ _ w.heap.size ⟨s,3,0,⟨#[]⟩⟩ rfl (Blk.new w _ _)) rfl ?_;exact ⟨rfl,(Below.refl _ _).alloc (Nat.le_refl _) _⟩
 · rw [sW h];exact Ki s t (by omega) w
theorem sZ (s:ByteArray) (n:Int) (w:World):Calls Tryz.prog 55 #[.string s, .int .i64 n] w fun e w' =>e= .returned (prV (nuP s n))∧Below w.heap.size w w' :=by
 go_in;go_wp2_with fail;refine bodyPost_ret (gU (fn:=Tryz.f55) rfl _ _ w.heap.size ⟨s,1,n,⟨#[]⟩⟩ rfl (Blk.new w _ _)) rfl ?_;exact ⟨rfl,(Below.refl _ _).alloc (Nat.le_refl _) _⟩
theorem tq (s t:ByteArray) (w:World):Calls Tryz.prog 54 #[.string s, .string t] w fun e w' =>e= .returned (prV (txP s t))∧Below w.heap.size w w' :=by
 by_cases h:640 < t.size
 · rw [wL h];have h1:(640:Int) < (t.size:Int):=(by omega);go_in;go_wp2_with fail;refine bodyPost_ret (gU (fn:=Tryz.f54) rfl _ _ w.heap.size ⟨s,3,0,⟨#[]⟩⟩ rfl (Blk.new w _ _)) rfl ?_;exact ⟨rfl,(Below.refl _ _).alloc (Nat.le_refl _) _⟩
 · rw [sW h];have h1:¬ (640:Int) < (t.size:Int):=(by omega);go_in;go_wp2_with fail;refine bodyPost_ret (gU (fn:=Tryz.f54) rfl _ _ w.heap.size ⟨s,2,0,t⟩ rfl (Blk.new w _ _)) rfl ?_;exact ⟨rfl,(Below.refl _ _).alloc (Nat.le_refl _) _⟩
theorem tu (s t:ByteArray) (w:World):Calls Tryz.prog 50 #[.string s, .string t] w fun e w' =>e= .returned (prV (soP s t))∧Below w.heap.size w w' :=by
 unfold soP;by_cases h:t.size=0
 · obtain rfl:t=⟨#[]⟩:=by
    cases t with | mk d=>cases d with | mk l=>cases l with | nil=>rfl | cons a l=>simp [ByteArray.size] at h
   exact Kj s w
 · rw [if_neg h];have h1:=ko h;go_in;go_wp2_with fail;refine (lF s t _).mono ?_;rintro e w1 ⟨rfl,hb1⟩;have HX:=Blk.below (Blk.new w #[.string ⟨#[]⟩, .int .i64 0, .int .i64 0, .string ⟨#[]⟩] 79) hb1;go_wp2_with ((with_reducible refine ae ?_ 79 (.tmp 4) (.tmp 11) ?_ HX (prA (txP s t)) ?_ ?_ ?_ ?_ ?_ ?_);(iterate 4 rfl);(exact Kh _);rfl;(exact FC _));refine bodyPost_ret (gU (fn:=Tryz.f50) rfl _ _ w.heap.size (txP s t) rfl (Blk.row HX _)) rfl ?_;exact ⟨rfl,ak (aa ((Below.refl _ _).alloc (Nat.le_refl _) _) (by exact hb1)) (Nat.le_refl _) _⟩
theorem tC (s t:ByteArray) (w:World):Calls Tryz.prog 56 #[.string s, .string t] w fun e w' =>e= .returned (prV (soP s t))∧Below w.heap.size w w' :=by
 unfold soP;by_cases h:t.size=0
 · obtain rfl:t=⟨#[]⟩:=by
    cases t with | mk d=>cases d with | mk l=>cases l with | nil=>rfl | cons a l=>simp [ByteArray.size] at h
   rw [if_pos h];go_in;go_wp2_with fail;refine bodyPost_ret (gU (fn:=Tryz.f56) rfl _ _ w.heap.size ⟨s,3,0,⟨#[]⟩⟩ rfl (Blk.new w _ _)) rfl ?_;exact ⟨rfl,(Below.refl _ _).alloc (Nat.le_refl _) _⟩
 · rw [if_neg h];have h1:=ko h;go_in;go_wp2_with fail;refine (tq s t _).mono ?_;rintro e w1 ⟨rfl,hb1⟩;have HX:=Blk.below (Blk.new w #[.string ⟨#[]⟩, .int .i64 0, .int .i64 0, .string ⟨#[]⟩] 79) hb1;go_wp2_with ((with_reducible refine ae ?_ 79 (.tmp 4) (.tmp 11) ?_ HX (prA (txP s t)) ?_ ?_ ?_ ?_ ?_ ?_);(iterate 4 rfl);(exact Kh _);rfl;(exact FC _));refine bodyPost_ret (gU (fn:=Tryz.f56) rfl _ _ w.heap.size (txP s t) rfl (Blk.row HX _)) rfl ?_;exact ⟨rfl,ak (aa ((Below.refl _ _).alloc (Nat.le_refl _) _) (by exact hb1)) (Nat.le_refl _) _⟩
theorem tX {fn:Func} {a b c d:Tmp} (h:fn.results=#[.tmp a, .tmp b, .tmp c, .tmp d]) (tmps:Array Value) (P:Program) (w:World):
  (results fn tmps).run P w= .ok (.tuple #[tmps.getD a undef,tmps.getD b undef,tmps.getD c undef,tmps.getD d undef]) w:=by
 simp [results,h]
attribute [local irreducible] jw dV
theorem FR (w:World):Calls Tryz.prog 109 #[] w fun e w' =>e= .returned (.int .i64 22)∧Below w.heap.size w w' :=by
 go_in;go_wp2_with fail;refine (FQ _).mono ?_;rintro e w1 ⟨rfl,_,hb⟩;go_wp2_with fail;go_ret;exact ⟨rfl,hb⟩
end Go.Proofs.YtollifnnpihfdaaGreatDoor
namespace Go.Proofs.YtollifnnpihfdaaGreatDoor
open Go.RowKit
attribute [local irreducible] jw dV
theorem Er:(Tryz.prog.info? 147).map (·.size)=some 5:=by kernel_rfl
theorem xu (w:World) (g:Nat) (t:TypeId) (cs:Array Value) (tmps:Array Value) (hp:tmps.getD 2 undef= .pointer (some ⟨g,0,none⟩)) (h:Blk w g t cs) (h5:cs.size=5):
  (results Tryz.f63 tmps).run Tryz.prog w= .ok (.agg cs) w:=
 results_cell_row (p:=2) (ty:=147) rfl tmps w g t cs (0,0) _ hp h Tryz.underlying147 rfl (by rw [h5];exact Er)
theorem Es (z:Int) (hz:z < 0) (w:World):Calls Tryz.prog 63 #[.int .i64 z] w fun e w' =>e= .returned (nI.val .i64 ⟨⟨#[]⟩,0,0,0,0⟩)∧Below w.heap.size w w' :=by
 go_in;go_wp2_with fail;refine bodyPost_ret (v:=nI.val .i64 ⟨⟨#[]⟩,0,0,0,0⟩) ?_ rfl ?_
 · simp [results,Tryz.results63,go_sem,nI.val]
 · exact ⟨rfl,(Below.refl _ _).alloc (Nat.le_refl _) _⟩
theorem yj (z:Int) (hz:22≤z) (w:World):Calls Tryz.prog 63 #[.int .i64 z] w fun e w' =>e= .returned (nI.val .i64 ⟨⟨#[]⟩,0,0,0,0⟩)∧Below w.heap.size w w' :=by
 go_in;go_wp2_with fail;refine (FR _).mono ?_;rintro e w1 ⟨rfl,hb⟩;have HG:Blk w1 w.heap.size 147 _:=(Blk.new w _ _).keep (boxed hb) (by omega);have q0:=HG.cell 0;have f0:=HG.free 0;have q1:=HG.cell 1;have f1:=HG.free 1;have q2:=HG.cell 2;have f2:=HG.free 2;have q3:=HG.cell 3;have f3:=HG.free 3;have q4:=HG.cell 4;have f4:=HG.free 4;go_wp2_with fail;refine bodyPost_ret (xu _ _ _ _ _ rfl (((((HG.put 0 _).put 1 _).put 2 _).put 3 _).put 4 _) rfl) rfl ?_;exact ⟨rfl,(((((Fp hb).setCell (Nat.le_refl _) _).setCell (Nat.le_refl _) _).setCell (Nat.le_refl _) _).setCell (Nat.le_refl _) _).setCell (Nat.le_refl _) _⟩
theorem Ik (n:Nat) (hn:n < 22) (w:World):Calls Tryz.prog 63 #[.int .i64 (n:Int)] w fun e w' =>e= .returned (nI.val .i64 (jw n))∧Below w.heap.size w w' :=by
 obtain ⟨k0,k1,k2,k3,k4⟩:=tV .i64 n hn;go_in;go_wp2_with fail;refine (FR _).mono ?_;rintro e w1 ⟨rfl,hb⟩;have HH:=Hd (show Blk w1 w.heap.size 147 _ from (Blk.new w _ _).keep (boxed hb) (by omega));have HB:=Hd (Fp hb);clear hb;go_wp2_with fail;refine (FQ _).mono ?_;rintro e w2 ⟨rfl,hg,hb2⟩;have HG:=HH.o.below hb2;have HB2:=Hd (HB.o.trans (hb2.mono HB.o.size));have c0:=(hg.cell (n * 5)).trans k0;have c1:=(hg.cell (n * 5+1)).trans k1;have c2:=(hg.cell (n * 5+2)).trans k2;have c3:=(hg.cell (n * 5+3)).trans k3;have c4:=(hg.cell (n * 5+4)).trans k4;have q0:=HG.cell 0;have f0:=HG.free 0;have q1:=HG.cell 1;have f1:=HG.free 1;have q2:=HG.cell 2;have f2:=HG.free 2;have q3:=HG.cell 3;have f3:=HG.free 3;have q4:=HG.cell 4;have f4:=HG.free 4;clear hg k0 k1 k2 k3 k4 HH HB hb2;have HR:=Hd (show nI.val .i64 (jw n)= .agg #[.string (jw n).name, .int .i64 (jw n).nums, .int .i64 (jw n).FP, .int .i64 (jw n).least, .int .i64 (jw n).most] from rfl);go_wp2_with fail;refine bodyPost_ret (xu _ _ _ _ _ rfl (((((HG.put 0 _).put 1 _).put 2 _).put 3 _).put 4 _) rfl) rfl ?_;exact ⟨by rw [HR.o];rfl,(((((HB2.o).setCell (Nat.le_refl _) _).setCell (Nat.le_refl _) _).setCell (Nat.le_refl _) _).setCell (Nat.le_refl _) _).setCell (Nat.le_refl _) _⟩
theorem xw {z:Int} (h:z < 0):jF z=⟨⟨#[]⟩,0,0,0,0⟩:=if_pos h
theorem o9 {z:Int} (h:22≤z):jF z=⟨⟨#[]⟩,0,0,0,0⟩:=by
 unfold jF;rw [if_neg (by omega)];unfold jw;rw [List.getD_eq_getElem?_getD,List.getElem?_eq_none (by show qI.length≤_;have:qI.length=22:=rfl;omega)];rfl
theorem qJ (n:Nat):jF (n:Int)=jw n:=by unfold jF;rw [if_neg (by omega),Int.toNat_natCast]
theorem Ro (z:Int) (w:World):Calls Tryz.prog 63 #[.int .i64 z] w fun e w' =>e= .returned (nI.val .i64 (jF z))∧Below w.heap.size w w' :=by
 by_cases h0:z < 0
 · rw [xw h0];exact Es z h0 w
 · by_cases h1:22≤z
   · rw [o9 h1];exact yj z h1 w
   · obtain ⟨n,rfl⟩:=Int.eq_ofNat_of_zero_le (show 0≤z by omega);rw [qJ];exact Ik n (by omega) w
theorem Pn (z:Int) (w:World):Calls Tryz.prog 24 #[.int .i64 z] w fun e w' =>e= .returned (.string (jF z).name)∧Below w.heap.size w w' :=by
 have HG:=Hd (Ro z);generalize jF z=r at *;obtain ⟨nm,a,b,c,d⟩:=r;go_in;go_wp2_with fail;refine (HG.o _).mono ?_;rintro e w1 ⟨rfl,hb⟩;unfold nI.val;have hf:∀ w,(Instr.field 147 (.agg #[.string nm, .int .i64 a, .int .i64 b, .int .i64 c, .int .i64 d]) 0).run Tryz.prog w= .ok (.string nm) w:=fun _=>by kernel_rfl
 go_wp2_with fail;go_ret;exact ⟨rfl,hb⟩
theorem KZ (z:Int) (w:World):Calls Tryz.prog 87 #[.int .i64 z] w fun e w' =>e= .returned (.tuple #[.int .i64 (jF z).nums, .int .i64 (jF z).FP, .int .i64 (jF z).least, .int .i64 (jF z).most])∧Below w.heap.size w w' :=by
 have HG:=Hd (Ro z);generalize jF z=r at *;obtain ⟨nm,a,b,c,d⟩:=r;go_in;go_wp2_with fail;refine (HG.o _).mono ?_;rintro e w1 ⟨rfl,hb⟩;unfold nI.val;go_wp2_with fail;go_quiet (fail);go_wp2_with fail;refine bodyPost_ret (tX rfl _ _ _) rfl ?_;exact ⟨rfl,below_drewN (hb.alloc hb.size _) _⟩
end Go.Proofs.YtollifnnpihfdaaGreatDoor
