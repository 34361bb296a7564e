import Derived.Test.YtollifnnpihfdaaGreatDoorG49
set_option maxRecDepth 100000
set_option maxHeartbeats 64000000
set_option linter.all false
namespace Go.Proofs.YtollifnnpihfdaaGreatDoor
open Go.RowKit
theorem aC.NR {w:World} {base k:Nat} {v:Value} {ds:List Dm} {t:TypeId} {cs:Array Value} (h:aC w base v ds) (hk:Blk w k t cs) (h1:EDv.e≠t) (h2:ENd.e≠t) (h3:EEn.e≠t):v.ownBlock≠some k∧(∀ d∈ds,d.sl.ownBlock≠some k)∧∀ d∈ds,∀ x∈d.xs,x.sl.ownBlock≠some k:=
 ⟨ay h.own hk h1,fun d hd=>ay (h.nodes d hd).1 hk h2,fun d hd y hy=>ay (h.cO d hd y hy).1 hk h3⟩
theorem dD.turn {w w' :World} {lo j k:Nat} {A Am:Option Addr} {n c nm cm:Nat} {t:TypeId} {cs:Array Value} (h:dD w lo A n c Am nm cm j) (hk:Blk w k t cs) (hg:w.grownBy w' (some k)) (h1:EDv.e≠t) (h2:ENd.e≠t) (h3:EEn.e≠t) (h4:EMt.e≠t):dD w' lo A n c Am nm cm j:=by
 obtain ⟨ds,ms,k1,k2,k3⟩:=h;exact ⟨ds,ms,k1.far hg (fun q e=>by injection e with e;subst e;exact k1.NR hk h1 h2 h3),k2.far hg (fun q e r=>by injection r with r;subst r;exact ay k2 hk h4 e),k3⟩
structure EcQ (w:World) (g gx gp:Nat) (As:Option Addr) (ns cs:Nat) (Am:Option Addr) (nm cm:Nat) (u v:Value) (wr:World):Prop where
 low:Below g w wr
 sp:dD wr (g+1) As ns cs Am nm cm 3
 xb:Blk wr gx 31 #[slV As ns cs,slV Am nm cm]
 po:eY wr (g+1) u v 6
 pb:Blk wr gp 41 (poA u v)
 nx:g < gx
 np:g < gp
 gl:g < wr.heap.size
section
variable {w wr w' :World} {g gx gp:Nat} {As:Option Addr} {ns cs:Nat} {Am:Option Addr} {nm cm:Nat} {u v:Value}
theorem EcQ.src (h:EcQ w g gx gp As ns cs Am nm cm u v wr) (hg:wr.grownBy w' (some g)):EcQ w g gx gp As ns cs Am nm cm u v w' :=by
 have h1:=h.nx;have h2:=h.np;have h3:=h.gl;exact ⟨ji h.low hg (by omega) (Nat.le_refl _),h.sp.src (by omega) hg,h.xb.src hg (by omega),h.po.only hg (by omega),h.pb.src hg (by omega),h1,h2,Nat.lt_of_lt_of_le h3 hg.size⟩
theorem EcQ.below (h:EcQ w g gx gp As ns cs Am nm cm u v wr) (hb:Below wr.heap.size wr w'):EcQ w g gx gp As ns cs Am nm cm u v w' :=by
 have h3:=h.gl;exact ⟨h.low.trans (hb.mono (by omega)),h.sp.below hb,h.xb.below hb,h.po.below hb,h.pb.below hb,h.nx,h.np,Nat.lt_of_lt_of_le h3 hb.size⟩
theorem EcQ.turn (h:EcQ w g gx gp As ns cs Am nm cm u v wr) {k:Nat} {t:TypeId} {ds:Array Value} (hk:Blk wr k t ds) (hgk:g≤k) (hg:wr.grownBy w' (some k)) (ht:t≠31∧t≠41∧EDv.e≠t∧ENd.e≠t∧EEn.e≠t∧EMt.e≠t∧(90:Nat)≠t∧(85:Nat)≠t∧(92:Nat)≠t):EcQ w g gx gp As ns cs Am nm cm u v w' :=by
 obtain ⟨t1,t2,t3,t4,t5,t6,t7,t8,t9⟩:=ht;have hx:k≠gx:=fun e=>by subst e;have h1:wr.heap[k]? =some (.cells #[slV As ns cs,slV Am nm cm] 31 (0,0)):=h.xb;rw [show wr.heap[k]? =_ from hk] at h1;injection h1 with h1;injection h1 with _ h2;exact t1 h2
 have hp:k≠gp:=fun e=>by subst e;have h1:wr.heap[k]? =some (.cells (poA u v) 41 (0,0)):=h.pb;rw [show wr.heap[k]? =_ from hk] at h1;injection h1 with h1;injection h1 with _ h2;exact t2 h2
 exact ⟨ji h.low hg (Nat.le_of_lt h.gl) hgk,h.sp.turn hk hg t3 t4 t5 t6,h.xb.grown hg (fun e=>hx (by injection e with e)),h.po.row hk t7 t8 t9 hg,h.pb.grown hg (fun e=>hp (by injection e with e)),h.nx,h.np,Nat.lt_of_lt_of_le h.gl hg.size⟩
end
theorem Cz {w:World} {base:Nat} {e:TypeId} {size:Nat} {v:Value} {k:Nat} {xs:List Value} (h:w.ownsRow base e size v k xs) {q:Nat} {t:TypeId} {cs:Array Value} (hk:Blk w q t cs) (hne:e≠t):v.ownBlock≠some q:=fun e2=>by
 rcases h.2 with ⟨rfl,_⟩ | ⟨g',cap,cur,rfl,_,hgg,_⟩
 · cases e2
 · have e3:g' =q:=Option.some.inj e2;subst e3;rw [show w.heap[g']? =_ from hk] at hgg;injection hgg with hgg;injection hgg with _ h2;exact hne h2.symm
theorem lv {w w' :World} {base:Nat} {e:TypeId} {size:Nat} {v:Value} {k:Nat} {xs:List Value} (h:w.ownsRow base e size v k xs) {q:Nat} {t:TypeId} {cs:Array Value} (hk:Blk w q t cs) (hne:e≠t) (hg:w.grownBy w' (some q)):w'.ownsRow base e size v k xs:=
 World.ownsRow.kept h hg (by
  cases hv:v.ownBlock with
  | none=>exact .inl rfl
  | some k=>right;intro e2;exact Cz h hk hne (by rw [hv];exact e2))
theorem vT {w:World} {base:Nat} {e:TypeId} {size:Nat} {v:Value} {k:Nat} {xs:List Value} (h:w.ownsRow base e size v k xs) {q:Nat} (hq:v.ownBlock=some q):∃ cur:Array Value,Blk w q e cur∧base≤q:=by
 rcases h.2 with ⟨rfl,_⟩ | ⟨g',cap,cur,rfl,hb,hgg,_⟩
 · cases hq
 · have e3:g' =q:=Option.some.inj hq;subst e3;exact ⟨cur,hgg,hb⟩
theorem CB (w:World) (L:List ByteArray) (cs:Array Value) (h:cs.toList=L.map Value.string):cz (w.alloc (.cells cs 9)) (w.alloc (.cells cs 9)).heap.size (some ⟨w.heap.size,0,none⟩) L:=fun k hk=>
 ⟨_,rfl,by simp,by rw [bV,(Blk.new w cs 9).cell, ← Array.getElem?_toList,h,List.getElem?_map,List.getElem?_eq_getElem hk];rfl⟩
def Gj:El (Itm×aD) where
 C p:=(az p.1 p.2).toList
 e:=73
 sl:=52
 sz:=13
 bs:=128
 len _:=rfl
 one p u hu:=by
  have:=kE p.1 p.2;rw [← Array.all_toList,List.all_eq_true] at this;exact this u hu
 pos:=by omega
 small:=by omega
 hu:=Tryz.underlying52
 info:=by
  obtain ⟨i0,h1,h2,h3,h4⟩:=info_parts Tryz.Ld;exact ⟨i0,_,h1,h2,h3,h4,rfl⟩
theorem MP (y:Itm) (r:aD) (x:ByteArray):Gj.C (y, { r with gv:=x })=(Gj.C (y,r)).set 0 (.string x):=rfl
theorem MQ (y:Itm) (r:aD) (x:ByteArray):Gj.C (y, { r with pa:=x })=(Gj.C (y,r)).set 1 (.string x):=rfl
theorem Fj (c:Ctx) (r:aN) (it:Value) (x:ByteArray):(aV c r it).setIfInBounds 12 (.string x)=aV { c with exe:=x } r it:=rfl
theorem MR (c:Ctx) (r:aN) (it:Value) (d:Int):(aV c r it).setIfInBounds 9 (.int .i64 d)=aV c { r with d:=d } it:=rfl
theorem MS (c:Ctx) (r:aN) (it:Value) (i:Int):(aV c r it).setIfInBounds 10 (.int .i64 i)=aV c { r with i:=i } it:=rfl
theorem Jm (c:Ctx) (r:aN) (it:Value) (A:Option Addr) (n m:Nat):(aV c r it).setIfInBounds 21 (.slice A n m)=aV c { r with gs:=⟨A,n,m⟩ } it:=rfl
theorem pK {w w' :World} {base:Nat} {v:Value} {L:List (Itm×aD)} (h:iW w base v L) (hb:Below w.heap.size w w'):iW w' base v L:=
 World.ownsRow.kept h (row:=none) ⟨hb.os,hb.tape,hb.output,hb.size,fun i hi _=>hb.block i hi⟩ (by
  cases hv:v.ownBlock with
  | none=>exact .inl rfl
  | some k=>right;intro e;cases e)
theorem aR.gsL {w:World} {g:Nat} {c:Ctx} {r:aN} {it:Value} (h:aR w g c r it):w.cell? ⟨g,21,none⟩=some r.gs.v:=h.cell 21
structure EcC (w:World) (g gx gp gc:Nat) (As:Option Addr) (ns cs:Nat) (Am:Option Addr) (nm cm:Nat) (u v:Value) (b:Int) (cy:Ctx) (ry:aN) (Ai:Option Addr) (ci:Nat) (LL:List (Itm×aD)) (gs:List ByteArray) (wr:World):Prop where
 q:EcQ w g gx gp As ns cs Am nm cm u v wr
 s:aB wr g g b
 c:aR wr gc cy ry (.slice Ai LL.length ci)
 i:iW wr (g+1) (.slice Ai LL.length ci) LL
 a:bF wr (g+1) ry.gs.v gs
 hgc:g < gc
section
variable {w wr w' :World} {g gx gp gc:Nat} {As:Option Addr} {ns cs:Nat} {Am:Option Addr} {nm cm:Nat} {u v:Value} {b b' :Int} {cy cy' :Ctx} {ry ry' :aN} {Ai:Option Addr} {ci:Nat} {LL:List (Itm×aD)} {gs:List ByteArray}
theorem EcC.src (h:EcC w g gx gp gc As ns cs Am nm cm u v b cy ry Ai ci LL gs wr) (hs:aB w' g g b') (hg:wr.grownBy w' (some g)):EcC w g gx gp gc As ns cs Am nm cm u v b' cy ry Ai ci LL gs w' :=by
 have h1:=h.hgc;exact ⟨h.q.src hg,hs,Blk.src h.c hg (by omega),h.i.only hg (Nat.lt_succ_self g),h.a.only hg (Nat.lt_succ_self g),h1⟩
theorem EcC.below (h:EcC w g gx gp gc As ns cs Am nm cm u v b cy ry Ai ci LL gs wr) (hb:Below wr.heap.size wr w'):EcC w g gx gp gc As ns cs Am nm cm u v b cy ry Ai ci LL gs w' :=
 ⟨h.q.below hb,h.s.below hb,Blk.below h.c hb,pK h.i hb,bF.below h.a hb,h.hgc⟩
theorem EcC.cell (h:EcC w g gx gp gc As ns cs Am nm cm u v b cy ry Ai ci LL gs wr) (j:Nat) (x:Value) (he:(aV cy ry (.slice Ai LL.length ci)).setIfInBounds j x=aV cy' ry' (.slice Ai LL.length ci)) (hgs:ry'.gs=ry.gs):EcC w g gx gp gc As ns cs Am nm cm u v b cy' ry' Ai ci LL gs (wr.setCell ⟨gc,j,none⟩ x):=by
 have h1:=h.hgc;have hg:=dZ wr ⟨gc,j,none⟩ x;refine ⟨h.q.turn h.c (Nat.le_of_lt h1) hg (by decide),h.s.setCell (by show g≤gc;omega) (by show gc≠g;omega) x,?_,lv h.i h.c (by decide) hg,by rw [hgs];exact lv h.a h.c (by decide) hg,h1⟩;have h2:=Blk.put h.c j x;rw [he] at h2;exact h2
theorem EcC.args (h:EcC w g gx gp gc As ns cs Am nm cm u v b cy ry Ai ci LL gs wr) {A' :Option Addr} {n' c' :Nat} {gs' :List ByteArray} (ho:bF w' (g+1) (.slice A' n' c') gs') (hg:wr.grownBy w' ry.gs.v.ownBlock):
  aR w' gc cy ry (.slice Ai LL.length ci)∧EcC w g gx gp gc As ns cs Am nm cm u v b cy { ry with gs:=⟨A',n',c'⟩ } Ai ci LL gs' (w'.setCell ⟨gc,21,none⟩ (.slice A' n' c')):=by
 have h1:=h.hgc;have main:EcQ w g gx gp As ns cs Am nm cm u v w' ∧aB w' g g b∧aR w' gc cy ry (.slice Ai LL.length ci)∧iW w' (g+1) (.slice Ai LL.length ci) LL:=by
  cases hv:ry.gs.v.ownBlock with
  | none=>
   rw [hv] at hg;have hb:Below wr.heap.size wr w' :=⟨hg.os,hg.tape,hg.output,hg.size,fun i hi=>hg.block i hi (fun e=>by cases e)⟩;have h2:=h.below hb;exact ⟨h2.q,h2.s,h2.c,h2.i⟩
  | some k=>
   rw [hv] at hg;obtain ⟨cur,hk,hgk⟩:=vT h.a hv;exact ⟨h.q.turn hk (by omega) hg (by decide),h.s.grown hg (fun r e=>by injection e with e;exact ⟨by omega,by omega⟩),Blk.grown h.c hg (Cz h.a h.c (by decide) |> fun hne e=>hne (by rw [hv];exact e)),lv h.i hk (by decide) hg⟩
 obtain ⟨m1,m2,m3,m4⟩:=main;have hgc:=dZ w' ⟨gc,21,none⟩ (.slice A' n' c');refine ⟨m3,m1.turn m3 (Nat.le_of_lt h1) hgc (by decide),m2.setCell (by show g≤gc;omega) (by show gc≠g;omega) _,?_,lv m4 m3 (by decide) hgc,lv ho m3 (by decide) hgc,h1⟩;have h2:=Blk.put m3 21 (.slice A' n' c');rw [Jm] at h2;exact h2
theorem EcC.item {gi:Nat} (h:EcC w g gx gp gc As ns cs Am nm cm u v b cy ry (some ⟨gi,0,none⟩) ci LL gs wr) (hL:0 < LL.length) (j:Nat) (hj:j < 13) (x:Value) (y:Itm×aD) (hy:Gj.C y=(Gj.C (LL[0]'hL)).set j x):
   EcC w g gx gp gc As ns cs Am nm cm u v b cy ry (some ⟨gi,0,none⟩) ci (LL.set 0 y) gs (wr.setCell ⟨gi,j,none⟩ x):=by
 obtain ⟨cur,hk,hgk⟩:=vT (q:=gi) h.i rfl;have hg:=dZ wr ⟨gi,j,none⟩ x;have h1:=h.hgc;have hi:=ax.put (E:=Gj) (k:=0) (j:=j) (u:=x) (x' :=y) (show ax Gj wr (g+1) (.slice (some ⟨gi,0,none⟩) LL.length ci) LL from h.i) hL hj hy;rw [Nat.zero_mul,Nat.zero_add] at hi;refine ⟨h.q.turn hk (by omega) hg (by decide),h.s.setCell (by show g≤gi;omega) (by show gi≠g;omega) x,?_,?_,lv h.a hk (by decide) hg,h1⟩
 · rw [List.length_set];exact Blk.grown h.c hg (Cz h.i h.c (by decide) |> fun hne e=>hne e)
 · rw [List.length_set];exact hi
theorem EcC.ready {Au Av:Option Addr} {nu cu nv cv:Nat} (h:EcC w g gx gp gc As ns cs Am nm cm (.slice Au nu cu) (.slice Av nv cv) b cy ry Ai ci LL gs wr) (hc:Calls10 wr) (key:ByteArray) (t:Int):
  ∃ (rs:List Ru) (cwd:ByteArray),nu=rs.length∧ry.gs.n=gs.length∧RdS ⟨Au,nu,cu, .slice Av nv cv,cy,ry,Ai,LL.length,ci,t,rs,LL⟩ As ns cs Am nm cm true 0 key cwd gs gp gx gc wr.heap.size (wr.alloc (.cells (vdC true 0 key) 63)):=by
 have hba:=(Below.refl wr.heap.size wr).alloc (Nat.le_refl _) (.cells (vdC true 0 key) 63);obtain ⟨⟨rs,hrs,_⟩,_⟩:=h.q.po;obtain ⟨ds,ms,hf,hm,hok,hml⟩:=h.q.sp;obtain ⟨A1,c1,e1,h1⟩:=hf.at;obtain ⟨A2,c2,e2,h2⟩:=hm.at;obtain ⟨A3,c3,e3,h3⟩:=h.i.items;obtain ⟨A4,c4,e4,h4⟩:=(qG h.a).at;injection e1 with e1 e1n _;injection e2 with e2 e2n _;injection e3 with e3 _ _;injection e4 with e4 e4n _;subst e1 e2 e3;obtain ⟨cwd,_,w1,w2⟩:=Jj ds As ns cs e1n ms Am nm cm e2n (by omega) hok ry.d ry.i wr h1 h2;refine ⟨rs,cwd,(bM hrs.own).1,e4n,?_⟩;exact ⟨Blk.below h.q.pb hba,Blk.below h.q.xb hba,Blk.below h.c hba,Blk.new wr _ _,hrs.at'.below hba,(h3.keep hba (Nat.le_refl _)).more hba.size,(by
  show AtE kD _ _ ry.gs.A gs;rw [e4];exact (h4.keep hba (Nat.le_refl _)).more hba.size),w1.below hba,w2.below hba,hc.below hba (Nat.le_refl _)⟩
end
theorem Ue (a:Addr) (w:World):(loadVar 9 a).run Tryz.prog w=(load a).run Tryz.prog w:=by
 unfold loadVar;simp [go_sem]
attribute [local irreducible] aV
attribute [-go_sem] loadVar
attribute [local go_sem] lv3 Ue BK uh
theorem MU {w:World} {g:Nat} {A:Option Addr} {n c:Nat} {Am:Option Addr} {nm cm:Nat} (h:Blk w g 31 #[slV A n c,slV Am nm cm]):(loadVar 28 ⟨g,0,none⟩).run Tryz.prog w= .ok (fsV A n c) w:=
 oP (cs:=#[slV A n c]) (fun j u hu=>by
  match j with
  | 0=>simp at hu;subst hu;rw [Kk,h.cell];rfl
  | j+1=>simp at hu) Tryz.underlying28 rfl (by show _=some 1;kernel_rfl)
theorem MV {w:World} {g:Nat} {A B:Option Addr} {n c k d:Nat} (h:Blk w g 41 #[.slice A n c, .slice B k d]):(loadVar 41 ⟨g,0,none⟩).run Tryz.prog w= .ok (.agg #[.slice A n c, .slice B k d]) w:=run_loadVar_row w g _ _ _ _ _ h Tryz.underlying41 rfl (by show _=some 2;kernel_rfl)
theorem emitContexts_walk (w:World) (exe key:ByteArray) (t:Int) (A:Option Addr) (n c:Nat) (hn:(n:Int)≤9223372036854775807)
   (hl:∀ k,k < n→∃ (ad:Addr) (z:Int),A=some ad∧ad.block < w.heap.size∧w.cell? (ad.add k)=some (.int .i64 z)∧ -9223372036854775808≤z∧z≤9223372036854775807) (he:exe.size≤maxLen) (hk:key.size≤maxLen) (hc:Calls10 w):
   Calls Tryz.prog 4 #[.slice A n c, .string exe, .string key, .int .i64 t] w fun e w' =>e= .returned (.bool true)∧Below w.heap.size w w' :=by
 have HL:=Hd hl;have HN:=Hd hn;have HC:=Hd (fun (W:World) (h:Below w.heap.size w W)=>hc.below h (Nat.le_refl _));have HAW:=Hd (fun (W:World) (h:Below w.heap.size w W)=>Ji W (hc.below h (Nat.le_refl _)));unfold maxLen at he hk;clear hl hn hc;go_in;by_cases h1:1000 < exe.size;case pos=>
   have h2:(1000:Int) < (exe.size:Int):=(by omega);clear h1;go_wp2_with fail;refine (HAW.o _ (Below.refl _ _)).mono ?_;rintro e w2 ⟨rfl,hb2⟩;have HB2:=Hd hb2;clear hb2;go_wp2_with fail;go_ret;exact ⟨rfl,HB2.o⟩
 case neg=>
 have h2:¬ (1000:Int) < (exe.size:Int):=by omega
 have HE:=Hd h1;clear h1;by_cases h3:1000 < key.size;case pos=>
   have h4:(1000:Int) < (key.size:Int):=(by omega);clear h3;go_wp2_with fail;refine (HAW.o _ (Below.refl _ _)).mono ?_;rintro e w2 ⟨rfl,hb2⟩;have HB2:=Hd hb2;clear hb2;go_wp2_with fail;go_ret;exact ⟨rfl,HB2.o⟩
 case neg=>
 have h4:¬ (1000:Int) < (key.size:Int):=by omega
 have HK:=Hd h3;clear h3;go_wp2_with fail;clear h2 h4 he hk;refine (Gn w A n c HN.o HL.o).mono ?_;rintro e w1 ⟨rfl,hs1,hb1⟩;have S1:=Hd hs1;have B1:=Hd hb1;clear hs1 hb1 HL HN;obtain ⟨g,hg0⟩:∃ g,g=w.heap.size:=⟨_,rfl⟩;rw [← hg0] at S1 B1;have HG:=Hd hg0;rw [← hg0];clear hg0;go_wp2_with fail;refine (BS w1 g g 0 S1.o (by omega)).mono ?_;rintro e w2 ⟨As,ns,cs,Am,nm,cm,rfl,hsp,hs,hg⟩;have hgw:=aW S1.o;have SP2:=Hd (hsp.low (lo' :=g+1) (by omega));have S2:=Hd hs;have B2:=Hd (ji B1.o hg (by omega) (Nat.le_refl _));have HG2:=Hd (Nat.lt_of_lt_of_le hgw hg.size);clear hsp hs hg hgw S1 B1;go_upto_region 5 with fail;have hsz:=Blk.new w2 #[slV As ns cs,slV Am nm cm] 31;have hba:=(Below.refl w2.heap.size w2).alloc (Nat.le_refl _) (.cells #[slV As ns cs,slV Am nm cm] 31);have X3:=Hd hsz;have SP3:=Hd (SP2.o.below hba);have S3:=Hd (S2.o.below hba);have B3:=Hd (B2.o.trans (hba.mono (by have:=HG2.o;omega)));generalize hgx:w2.heap.size=gx at *;have HGX:=Hd (show g < gx from HG2.o);have HWX:=Hd (show gx < (w2.alloc (.cells #[slV As ns cs,slV Am nm cm] 31)).heap.size from X3.o.lt);clear hsz hba SP2 S2 B2 HG2 hgx;generalize w2.alloc (.cells #[slV As ns cs,slV Am nm cm] 31)=w3 at *;have hls:=xC X3.o;go_wp2_with fail;clear hls;refine (yA Qr 6 (by omega) w3 g g (0+1400) S3.o (by omega) (g+1) As ns cs Am nm cm SP3.o (Nat.lt_succ_self g) (by have:=HWX.o;have:=HGX.o;omega)).mono ?_;rintro e w4 ⟨u,v,rfl,hpo,hs,hg⟩;have PO4:=Hd (hpo.low (b:=g+1) (by have:=HWX.o;have:=HGX.o;omega));have S4:=Hd hs;have X4:=Hd (X3.o.src hg (by have:=HGX.o;omega));have SP4:=Hd (SP3.o.src (Nat.lt_succ_self g) hg);have B4:=Hd (ji B3.o hg (by have:=HWX.o;have:=HGX.o;omega) (Nat.le_refl _));have HW4:=Hd (Nat.lt_of_lt_of_le HWX.o hg.size);clear hpo hs hg S3 SP3 B3 X3 HWX;obtain ⟨Au,nu,cu,Av,nv,cv,eu,ev⟩:=PO4.o.forms;subst eu ev;go_upto_region 6 with fail;have hba:=(Below.refl w4.heap.size w4).alloc (Nat.le_refl _) (.cells (poA (.slice Au nu cu) (.slice Av nv cv)) 41);have Q5:=Hd (show EcQ w g gx w4.heap.size As ns cs Am nm cm (.slice Au nu cu) (.slice Av nv cv) (w4.alloc (.cells (poA (.slice Au nu cu) (.slice Av nv cv)) 41)) from ⟨B4.o.trans (hba.mono (by have:=HW4.o;have:=HGX.o;omega)),SP4.o.below hba,X4.o.below hba,PO4.o.below hba,Blk.new w4 _ _,HGX.o,by have:=HW4.o;have:=HGX.o;omega,by have:=HW4.o;have:=HGX.o;simp;omega⟩);have S5:=Hd (S4.o.below hba);clear hba PO4 S4 X4 SP4 B4 HW4 HGX;generalize w4.alloc (.cells (poA (.slice Au nu cu) (.slice Av nv cv)) 41)=w5 at *;generalize w4.heap.size=gp at *;go_wp2_with fail;refine (uG w5 g g (0+1400+2+1700 * 6) S5.o (by omega)).mono ?_;rintro e w6 ⟨cy,ry,it,LL,rfl,hL2,hown,⟨gs,hgl,hgz,hgs⟩,hs,hg⟩;have Uf:=Q5.o.gl;have Q6:=Hd (Q5.o.src hg);have S6:=Hd hs;have I6:=Hd (hown.low (lo' :=g+1) (by omega));have A6:=Hd (hgs.mono (lo' :=g+1) (by omega));have HL2:=Hd hL2;have HGL:=Hd (And.intro hgl hgz);clear hL2 hown hgl hgz hgs hs hg Uf Q5 S5;obtain ⟨Ai,ci,ei,_⟩:=I6.o.items;subst ei;have X7:=Hd (Blk.new w6 iw 54);go_upto_region 7 with ((with_reducible refine ae ?_ 54 (.tmp 12) (.tmp 31) ?_ X7.o (aV cy ry (.slice Ai LL.length ci)) ?_ ?_ ?_ ?_ ?_ ?_);(iterate 4 rfl);(exact dK _ _ _);(exact vH _ _ _);(exact qK _ _ _ _ _));have hba:Below w6.heap.size w6 ((w6.alloc (.cells iw 54)).setRow w6.heap.size (aV cy ry (.slice Ai LL.length ci))):=ak ((Below.refl _ _).alloc (Nat.le_refl _) _) (Nat.le_refl _) _;have C7:=Hd (X7.o.row (aV cy ry (.slice Ai LL.length ci)));have Q7:=Hd (Q6.o.below hba);have S7:=Hd (S6.o.below hba);have A7:=Hd (bF.below A6.o hba);have I7:=Hd (show iW ((w6.alloc (.cells iw 54)).setRow w6.heap.size (aV cy ry (.slice Ai LL.length ci))) (g+1) (.slice Ai LL.length ci) LL from pK I6.o hba);have HGC:=Hd (show g < w6.heap.size from Q6.o.gl);have K7:=Hd (show EcC w g gx gp w6.heap.size As ns cs Am nm cm (.slice Au nu cu) (.slice Av nv cv) (0+1400+2+1700 * 6+500) cy ry Ai ci LL gs ((w6.alloc (.cells iw 54)).setRow w6.heap.size (aV cy ry (.slice Ai LL.length ci))) from ⟨Q7.o,S7.o,C7.o,I7.o,A7.o,HGC.o⟩);clear hba X7 Q6 S6 A6 I6 Q7 S7 C7 I7 A7 HGC;generalize (w6.alloc (.cells iw 54)).setRow w6.heap.size (aV cy ry (.slice Ai LL.length ci))=w7 at *;generalize w6.heap.size=gc at *;obtain ⟨ds,ms,hf,hm,hok,hml⟩:=K7.o.q.sp;have hls:=MU K7.o.q.xb;go_wp2_with fail;clear hls;refine (iK w7 g g (0+1400+2+1700 * 6+500) K7.o.s (by omega) (g+1) As ns cs ds hf (Nat.lt_succ_self g) K7.o.q.gl hok.1).mono ?_;rintro e w8 ⟨d,i,rfl,hs,hg⟩;have K8:=Hd (K7.o.src hs hg);clear hs hg hf hm hok hml K7;have c12:=aR.exe K8.o.c;have c9:=aR.c9 K8.o.c;have c10:=aR.c10 K8.o.c;have f12:=Blk.free K8.o.c 12;have f9:=Blk.free K8.o.c 9;have f10:=Blk.free K8.o.c 10;have K9:=Hd (((K8.o.cell 12 (.string exe) (Fj _ _ _ _) rfl).cell 9 (.int .i64 d) (MR _ _ _ _) rfl).cell 10 (.int .i64 i) (MS _ _ _ _) rfl);go_upto_region 8 with fail;clear c12 c9 c10 f12 f9 f10 K8;generalize ((w8.setCell ⟨gc,12,none⟩ (.string exe)).setCell ⟨gc,9,none⟩ (.int .i64 d)).setCell ⟨gc,10,none⟩ (.int .i64 i)=w9 at *;generalize hcy:({ cy with exe:=exe } :Ctx)=cx at *;generalize hry:({ { ry with d:=d } with i:=i } :aN)=rx at *;clear hcy hry
 skip
 go_wp2_with fail;refine (bG w9 g g _ 3 K9.o.s (by omega) (by omega) (by omega)).mono ?_;rintro e w10 ⟨x,rfl,x0,x1,hs,hg⟩;have K10:=Hd (K9.o.src hs hg);clear hs hg K9;go_upto_if 43 with fail;go_cut [] (fun wx=>∃ (r' :aN) (gs' :List ByteArray),gs'.length≤9∧EcC w g gx gp gc As ns cs Am nm cm (.slice Au nu cu) (.slice Av nv cv) (0+1400+2+1700 * 6+500+4+1) cx r' Ai ci LL gs' wx);case first=>
   by_cases hx:x=0;case pos=>
     have b1:=(dY hx).1;clear hx;have c21:=aR.gsL K10.o.c;have hba:=(Below.refl w10.heap.size w10).alloc (Nat.le_refl _) (.cells #[.string exe, .string key, .string ⟨#[99]⟩, .string ⟨#[100]⟩, .string ⟨#[101]⟩] 9);have K11:=Hd (K10.o.below hba);have RW:=Hd (CB w10 [exe,key,⟨#[99]⟩,⟨#[100]⟩,⟨#[101]⟩] #[.string exe, .string key, .string ⟨#[99]⟩, .string ⟨#[100]⟩, .string ⟨#[101]⟩] rfl);have HSZ:=Hd (show g+1≤(w10.alloc (.cells #[.string exe, .string key, .string ⟨#[99]⟩, .string ⟨#[100]⟩, .string ⟨#[101]⟩] 9)).heap.size from K11.o.q.gl);have HLN:=Hd (show gs.length+5≤1000000 by have:=HGL.o.1;omega);clear hba;go_wp2_with (at_builtin;refine dN rfl (.tmp 46) (.tmp 49) rfl (g+1) rx.gs.v gs rfl K11.o.a _ (some ⟨w10.heap.size,0,none⟩) 5 5 [exe,key,⟨#[99]⟩,⟨#[100]⟩,⟨#[101]⟩] rfl rfl RW.o HLN.o HSZ.o ?_;intro v6 w6 ho6 hg6 gL;have hoc:=ho6;obtain ⟨A6,c6,e6,_⟩:=ho6.strs;subst e6;obtain ⟨m3,k13⟩:=K11.o.args hoc hg6;have K13:=Hd k13;have d21:=aR.gsL m3;have f21:=Blk.free m3 21;have HL6:=Hd (show (gs ++ [exe,key,⟨#[99]⟩,⟨#[100]⟩,⟨#[101]⟩]).length≤9 by have:=HGL.o.1;simp;omega);clear k13 m3 hoc hg6 gL ho6 c21;generalize hl6:(gs ++ [exe,key,⟨#[99]⟩,⟨#[100]⟩,⟨#[101]⟩]).length=l6 at *);go_meet;exact ⟨_,gs ++ [exe,key,⟨#[99]⟩,⟨#[100]⟩,⟨#[101]⟩],by rw [hl6];exact HL6.o,K13.o⟩
   case neg=>
     have b1:=(bT hx).1;go_wp2_with fail;go_meet;exact ⟨rx,gs,by have:=HGL.o.1;omega,K10.o⟩
 case rest=>
 generalize wc=wB at *;obtain ⟨ry2,gs2,R8,hk⟩:=hcut;have K12:=Hd hk;have HG2:=Hd R8;clear hk R8 K10
 skip
 go_upto_region 10 with fail;go_cut [61] (fun u wx=>∃ dq:Bool,u= .bool dq∧(dq=true→0 < LL.length)∧EcC w g gx gp gc As ns cs Am nm cm (.slice Au nu cu) (.slice Av nv cv) (0+1400+2+1700 * 6+500+4+1+1) cx ry2 Ai ci LL gs2 wx);case first=>
   go_wp2_with fail;refine (bG wB g g _ 3 K12.o.s (by omega) (by omega) (by omega)).mono ?_;rintro e w14 ⟨x2,rfl,y0,y1,hs,hg⟩;have K14:=Hd (K12.o.src hs hg);clear hs hg;have c23:=aR.items K14.o.c;by_cases hx2:x2=0;case pos=>
     have b1:=(dY hx2).1;by_cases hl2:0 < LL.length;case pos=>
      have b2:(LL.length:Int) > 0:=(by omega);go_wp2_with fail;go_meet;exact ⟨true,rfl,fun _=>hl2,K14.o⟩
     case neg=>
      have b2:¬ (LL.length:Int) > 0:=(by omega);go_wp2_with fail;go_meet;exact ⟨false,rfl,(fun e=>nomatch e),K14.o⟩
   case neg=>
     have b1:=(bT hx2).1;go_wp2_with fail;go_meet;exact ⟨false,rfl,(fun e=>nomatch e),K14.o⟩
 case rest=>
 generalize wc=wC at *;obtain ⟨dq,rfl,hdq,hk⟩:=hcut;have K15:=Hd hk;clear hk K12;go_upto_if 61 with fail;go_cut [] (fun wx=>∃ L2:List (Itm×aD),L2.length≤2∧EcC w g gx gp gc As ns cs Am nm cm (.slice Au nu cu) (.slice Av nv cv) (0+1400+2+1700 * 6+500+4+1+1) cx ry2 Ai ci L2 gs2 wx);case first=>
   cases dq with
   | true=>
     have hlp:=hdq rfl;obtain ⟨gi,cap,ei⟩:=Joins.ownsRow_form K15.o.i hlp;injection ei with e1 e2 e3;subst e1 e3;have c23:=aR.items K15.o.c;have HLP:=Hd hlp;have n1:(0:Int) < (LL.length:Int):=(by omega);have n2:¬ (LL.length:Int)≤0:=(by omega);have n3:LL.length≠0:=(by omega);go_upto_region 11 with fail;refine wp_region_held_drew (S:=(fun W' =>W'.cell? ⟨gc,23,none⟩=some (.slice (some ⟨gi,0,none⟩) LL.length ci))) (by kernel_rfl) (by exact c23) (fun hHeld=>?_);have K16:=Hd (K15.o.below (Below.refl wC.heap.size wC).drew);clear K15 c23;generalize wC.drew=wd at *;refine tk hHeld 0 ?_ ?_ (tk hHeld 1 ?_ ?_ (tk hHeld 2 ?_ ?_ (tk hHeld 3 ?_ ?_ (tk hHeld 4 ?_ ?_ (tk hHeld 5 ?_ ?_ ?_)))));iterate 6
      rotate_left
      · intro W hSw;have kk:=hSw;go_simp;try (with_reducible rfl)
     obtain ⟨A9,c9,e9,hat⟩:=K16.o.i.items;injection e9 with e1 _ _;subst e1;obtain ⟨ad9,e9,_,hcx⟩:=hat 0 HLP.o;injection e9 with e9;subst e9;obtain ⟨cur,MW,_⟩:=vT (q:=gi) K16.o.i rfl;have i0:wd.cell? ⟨gi,0,none⟩=some (.string LL[0].2.gv):=hcx 0 (by omega);have i1:wd.cell? ⟨gi,1,none⟩=some (.string LL[0].2.pa):=hcx 1 (by omega);have g0:=Blk.free MW 0;have g1:(wd.setCell ⟨gi,0,none⟩ (.string key)).frozen? ⟨gi,1,none⟩=false:=Blk.free (Blk.put MW 0 (.string key)) 1;have i2:(wd.setCell ⟨gi,0,none⟩ (.string key)).cell? ⟨gi,1,none⟩=some (.string LL[0].2.pa):=(by rw [← i1,Blk.cell (Blk.put MW 0 (.string key)),Blk.cell MW];simp);have k18:=K16.o.item HLP.o 0 (by omega) (.string key) (LL[0].1, { LL[0].2 with gv:=key }) (MP _ _ _);have hls:=(show (LL.set 0 (LL[0].1, { LL[0].2 with gv:=key })).length=LL.length from List.length_set ..);generalize hLq:LL.set 0 (LL[0].1, { LL[0].2 with gv:=key })=Lq at *;have hlq:0 < Lq.length:=(by rw [hls];exact HLP.o);have k19:=k18.item hlq 1 (by omega) (.string exe) (Lq[0].1, { Lq[0].2 with pa:=exe }) (MQ _ _ _);have s18:=aR.items k18.c;rw [hls] at s18;have s19:=aR.items k19.c;rw [List.length_set,hls] at s19;have K19:=Hd k19;have HLQ:=Hd (show (Lq.set 0 (Lq[0].1, { Lq[0].2 with pa:=exe })).length≤2 by rw [List.length_set,hls];exact HL2.o);clear hcx hat k18 k19 MW hls hLq i1 K16;refine tk hHeld 6 ?_ ?_ (tk hHeld 7 ?_ ?_ ?_);iterate 2
      rotate_left
      · intro W hSw;go_simp;try (with_reducible rfl)
     refine rdy1 8 (fun K hK=>?_);go_simp;refine hK.o _ _ s18 (fun hHeld=>?_);clear hK K;refine tk hHeld 9 ?_ ?_ (tk hHeld 10 ?_ ?_ ?_);iterate 2
      rotate_left
      · intro W hSw;go_simp;try (with_reducible rfl)
     refine rdy1 11 (fun K hK=>?_);go_simp;refine hK.o _ _ s19 (fun hHeld=>?_);clear hK K;clear i0 g0 g1 i2 s18 s19;refine wpAnyH_done (by kernel_rfl) ?_ _;go_simp;go_wp2_with fail;go_meet;exact ⟨_,HLQ.o,K19.o⟩
   | false=>
     go_wp2_with fail;go_meet;exact ⟨LL,HL2.o,K15.o⟩
 case rest=>
 generalize wc=wD at *;obtain ⟨L2,hl2,hk⟩:=hcut;have K17:=Hd hk;have HL3:=Hd hl2;clear hk K15 hdq
 skip
 have NG:=Hd (show Below w.heap.size w wD by have:=K17.o.q.low;have hg:=HG.o;rw [hg] at this;exact this);obtain ⟨rs,cwd,hnu,hng,hr⟩:=K17.o.ready (HC.o wD NG.o) key t;have R18:=Hd hr;have HNG:=Hd hng;generalize hm:(⟨Au,nu,cu, .slice Av nv cv,cx,ry2,Ai,L2.length,ci,t,rs,L2⟩:Mk)=m at *;have HOK:=Hd (show m.Ok by rw [← hm];exact ⟨hnu,rfl,by have:=HL3.o;show L2.length≤1000;omega⟩);have HMN:=Hd (show m.r.gs.n=gs2.length by rw [← hm];exact hng);have HFW:=Hd (show gs2.length≤1000 by have:=HG2.o;omega);have HMI:=Hd (show m.is.length≤1000 by rw [← hm];have:=HL3.o;show L2.length≤1000;omega);have HX:=Hd (show m.X=aV cx ry2 (.slice Ai L2.length ci) by rw [← hm]);have HP:=Hd (show m.P=#[.slice Au nu cu, .slice Av nv cv] by rw [← hm]);have HT:=Hd (show m.ti=t by rw [← hm]);have B18:=Hd (NG.o.trans ((Below.refl wD.heap.size wD).alloc (Nat.le_refl _) (.cells (vdC true 0 key) 63) |>.mono NG.o.size));go_upto_region 13 with fail;clear hr hnu hng hm K17 NG;have hgv:=Nat.le_refl wD.heap.size;generalize hWx:wD.alloc (.cells #[.bool true, .int .i64 0, .string key] 63)=wE at *;generalize wD.heap.size=gv at *;clear hWx hgv;refine wp_region_held_drew (S:=(fun W' =>((Blk W' gp 41 #[.slice Au nu cu, .slice Av nv cv]∧Blk W' gx 31 #[slV As ns cs,slV Am nm cm])∧Blk W' gc 54 (aV cx ry2 (.slice Ai L2.length ci)))∧Blk W' gv 63 (vdC true 0 key))) (by kernel_rfl) (by have h:=R18.o.below (Below.refl wE.heap.size wE).drew;rw [← HP.o, ← HX.o];exact ⟨⟨⟨h.bp,h.bx⟩,h.bc⟩,h.bv⟩) (fun hHeld=>?_);have R19:=Hd (R18.o.below (Below.refl wE.heap.size wE).drew);have B19:=Hd (aa B18.o (Below.refl wE.heap.size wE).drew);clear R18 B18;generalize wE.drew=wd at *;refine tk hHeld 0 ?_ ?_ (tk hHeld 1 ?_ ?_ (tk hHeld 2 ?_ ?_ (tk hHeld 3 ?_ ?_ (tk hHeld 4 ?_ ?_ (tk hHeld 6 ?_ ?_ (tk hHeld 7 ?_ ?_ (tk hHeld 8 ?_ ?_ (tk hHeld 9 ?_ ?_ (tk hHeld 10 ?_ ?_ ?_)))))))));iterate 10
   rotate_left
   · intro W hSw;have kk:=MV hSw.1.1.1;have CP:=xC hSw.1.1.2;have F6:=gH hSw.1.2;have Nz:=Gf hSw.2;go_simp;try (with_reducible rfl)
 refine rdy1 5 (fun K hK=>?_);go_simp;go_at_call 17;have hev:=RB m HOK.o key true 0 gs2 HMN.o HFW.o As ns cs Am nm cm cwd wd R19.o.rules R19.o.items R19.o.args R19.o.calls R19.o.vw;rw [HP.o,HX.o,HT.o] at hev;refine hev.mono ?_;rintro e wa ⟨A1,n1,c1,rfl,hn1,ho1,hb⟩;have hh:=And.intro (And.intro (And.intro (Blk.below hHeld.1.1.1 hb) (Blk.below hHeld.1.1.2 hb)) (Blk.below hHeld.1.2 hb)) (Blk.below hHeld.2 hb);have O1:=Hd ho1;have R20:=Hd (R19.o.below hb);have B20:=Hd (aa B19.o hb);clear hb ho1 R19 B19 hev hn1;go_simp;refine hK.o _ _ hh (fun hHeld=>?_);clear hK K;clear hh;refine rdy1 11 (fun K hK=>?_);go_simp;go_at_call 18;have hev:=TS m HOK.o key true 0 gs2 HMN.o HFW.o As ns cs Am nm cm cwd wa R20.o.rules R20.o.items R20.o.args R20.o.rw;rw [HP.o,HX.o,HT.o] at hev;refine hev.mono ?_;rintro e wb ⟨A2,n2,c2,rfl,hn2,ho2,hb⟩;have hh:=And.intro (And.intro (And.intro (Blk.below hHeld.1.1.1 hb) (Blk.below hHeld.1.1.2 hb)) (Blk.below hHeld.1.2 hb)) (Blk.below hHeld.2 hb);have O2:=Hd ho2;have HSM:=Hd (Fh m key gs2 cwd HMI.o O1.o ho2 hb);have B21:=Hd (aa B20.o hb);clear hb ho2 R20 B20 hev hn2 O1 O2;go_simp;refine hK.o _ _ hh (fun hHeld=>?_);clear hK K;clear hh;refine rdy1 12 (fun K hK=>?_);go_simp;go_at_call 16;refine HSM.o.mono ?_;rintro e wg ⟨rfl,hb⟩;have hh:=And.intro (And.intro (And.intro (Blk.below hHeld.1.1.1 hb) (Blk.below hHeld.1.1.2 hb)) (Blk.below hHeld.1.2 hb)) (Blk.below hHeld.2 hb);have B22:=Hd (aa B21.o hb);clear hb HSM B21;go_simp;refine hK.o _ _ hh (fun hHeld=>?_);clear hK K;clear hh;refine tk hHeld 13 ?_ ?_ ?_;rotate_left
 · intro W hSw;go_simp;try (with_reducible rfl)
 refine rdy1 14 (fun K hK=>?_);go_simp;go_at_call 19;refine (HAW.o _ B22.o).mono ?_;rintro e wh ⟨rfl,hb⟩;have hh:=And.intro (And.intro (And.intro (Blk.below hHeld.1.1.1 hb) (Blk.below hHeld.1.1.2 hb)) (Blk.below hHeld.1.2 hb)) (Blk.below hHeld.2 hb);have B23:=Hd (aa B22.o hb);clear hb B22;go_simp;refine hK.o _ _ hh (fun hHeld=>?_);clear hK K;clear hh;refine tk hHeld 15 ?_ ?_ (tk hHeld 16 ?_ ?_ ?_);iterate 2
   rotate_left
   · intro W hSw;go_simp;try (with_reducible rfl)
 refine wpAnyH_done (by kernel_rfl) ?_ _;go_simp;go_wp2_with fail;go_ret;exact ⟨rfl,B23.o⟩
end Go.Proofs.YtollifnnpihfdaaGreatDoor
