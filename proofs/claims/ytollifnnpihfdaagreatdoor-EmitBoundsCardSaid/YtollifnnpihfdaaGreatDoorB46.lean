import Derived.Test.YtollifnnpihfdaaGreatDoorB45
import Derived.Great.Walk
set_option maxRecDepth 100000
set_option maxHeartbeats 64000000
set_option linter.all false
namespace Go.Proofs.YtollifnnpihfdaaGreatDoor
open Go.RowKit
def exP (p:Pc):Nat→Int:=fun j=>if j=0 then p.pid else if j=1 then p.pp else if j=2 then p.ui else if j=3 then p.eu else if j=4 then p.gi else if j=5 then p.eg else if j=6 then p.au else p.se
def exX (a:Nat→Int) (ex:Int) (p:Pc):Ctx:=⟨2,exP p,a,ex,0,p.co,p.ex⟩
def exR (z:Int) (p:Pc) (o ps gs:Sl):eH:=⟨p.cd,p.ci,o,p.dl,z,ps,gs⟩
def exC (z:Int) (a:Nat→Int) (ex:Int) (p:Pc) (o ps gs:Sl) (it:Value):Array Value:=gT (exX a ex p) (exR z p o ps gs) it
theorem H7 (z:Int) (a:Nat→Int) (ex:Int) (p:Pc) (o ps gs:Sl) (it:Value):exC z a ex p o ps gs it=#[.int .i64 2, .int .i64 p.pid, .int .i64 p.pp, .int .i64 p.ui, .int .i64 p.eu, .int .i64 p.gi, .int .i64 p.eg, .int .i64 p.au, .int .i64 p.se, .int .i64 p.cd, .int .i64 p.ci, .string p.co, .string p.ex,o.v, .bool p.dl, .int .i64 z, .int .i64 (a 0), .int .i64 (a 1), .int .i64 (a 2), .int .i64 (a 3),ps.v,gs.v, .int .i64 ex,it, .int .i64 0]:=rfl
theorem qj (z:Int) (a:Nat→Int) (ex:Int) (p:Pc) (o ps gs:Sl) (it:Value):(Tryz.prog.info? 54).map (·.size)=some (exC z a ex p o ps gs it).size:=sD _ _ _
theorem rD (z:Int) (a:Nat→Int) (ex:Int) (p:Pc) (o ps gs:Sl) (I:Option Addr) (nI cI:Nat):(exC z a ex p o ps gs (.slice I nI cI)).all (·.oneCell')=true:=xI _ _ _ _ _
theorem rE (z:Int) (a:Nat→Int) (ex:Int) (p:Pc) (o ps gs:Sl) (it:Value):dL.size=(exC z a ex p o ps gs it).size:=rfl
def zY (cs:Array Value):Nat→List Value→Array Value
 | _, []=>cs
 | o,u :: us=>zY (cs.setIfInBounds o u) (o+1) us
theorem Blk.setCells {g:Nat} {t:TypeId} :∀ (us:List Value) (o:Nat) {w:World} {cs:Array Value},Blk w g t cs→Blk (w.setCells g o us) g t (zY cs o us)
 | [],_,_,_,h=>h
 | u :: us,o,w,cs,h=>by
  unfold World.setCells zY;exact Blk.setCells us (o+1) (h.put o u)
theorem zZ (z:Int) (a:Nat→Int) (ex:Int) (p:Pc) (o ps gs:Sl) (it:Value) (q:Pc) (A:Option Addr) (n c:Nat):zY (exC z a ex p o ps gs it) 1 (psC q (.slice A n c)).toList=exC z a ex q ⟨A,n,c⟩ ps gs it:=by kernel_rfl
theorem Blk.proc {w:World} {g:Nat} {z:Int} {a:Nat→Int} {ex:Int} {p:Pc} {o ps gs:Sl} {it:Value} (h:Blk w g 54 (exC z a ex p o ps gs it)) (q:Pc) (A:Option Addr) (n c:Nat):Blk (w.setCells g 1 (psC q (.slice A n c)).toList) g 54 (exC z a ex q ⟨A,n,c⟩ ps gs it):=by
 have h1:=Blk.setCells (psC q (.slice A n c)).toList 1 h;rw [zZ] at h1;exact h1
theorem xJ {w:World} {g:Nat} {z:Int} {a:Nat→Int} {ex:Int} {p:Pc} {o ps gs:Sl} {it:Value} (h:Blk w g 54 (exC z a ex p o ps gs it)):w.there g 1 14:=fun j hj=>by
 refine ⟨?_,h.free (1+j)⟩;rw [h.cell,H7];have:j < 14:=hj
 match j,this with
 | 0,_=>rfl
 | 1,_=>rfl
 | 2,_=>rfl
 | 3,_=>rfl
 | 4,_=>rfl
 | 5,_=>rfl
 | 6,_=>rfl
 | 7,_=>rfl
 | 8,_=>rfl
 | 9,_=>rfl
 | 10,_=>rfl
 | 11,_=>rfl
 | 12,_=>rfl
 | 13,_=>rfl
 | j+14,h=>exact absurd h (by omega)
theorem BN {w:World} {g:Nat} {z:Int} {a:Nat→Int} {ex:Int} {p:Pc} {o ps gs:Sl} {it:Value} (h:Blk w g 54 (exC z a ex p o ps gs it)):(loadVar 54 ⟨g,0,none⟩).run Tryz.prog w= .ok (.agg (exC z a ex p o ps gs it)) w:=run_loadVar_row w g _ _ _ _ _ h Tryz.underlying54 rfl (qj _ _ _ _ _ _ _ _)
theorem H9 {w:World} {g:Nat} {s:Sy} (h:Blk w g 36 (syC s)):(loadVar 36 ⟨g,0,none⟩).run Tryz.prog w= .ok (.agg (syC s)) w:=run_loadVar_row w g _ _ _ _ _ h Tryz.underlying36 rfl (gU s)
theorem Ib {w:World} {g:Nat} {ex ch go:Int} {I C:Value} (h:Blk w g 57 (rsC ex ch go I C)):(loadVar 57 ⟨g,0,none⟩).run Tryz.prog w= .ok (.agg (rsC ex ch go I C)) w:=run_loadVar_row w g _ _ _ _ _ h Tryz.underlying57 rfl (ou ex ch go I C)
theorem xK {o:Oper} {a:Act} {W:World} {ty:TypeId} {x:Operand} {g:Nat} {cs:Array Value} (ho:o.op= .load ty x) (hx:a.eval x= .pointer (some ⟨g,0,none⟩)) (h:(loadVar ty ⟨g,0,none⟩).run Tryz.prog W= .ok (.agg cs) W):(execOp a.eval o).run Tryz.prog W= .ok (.value (.agg cs)) W:=by
 unfold execOp;simp only [ho,hx,Instr.loadAt,Instr.sureAddr,Sem.run_bind,Sem.run_pure,Result.andThen_ok,h]
structure ExD where
 z:Int
 a:Nat→Int
 ex:Int
 p:Pc
 o:Sl
 P:Option Addr
 cp:Nat
 G:Option Addr
 cg:Nat
 ps:List ByteArray
 gs:List ByteArray
 I:Option Addr
 nI:Nat
 cI:Nat
 is:List (Itm×bE)
 s:Sy
 ch:Int
 go:Int
 C:Option Addr
 nC:Nat
 cC:Nat
abbrev ExD.X (d:ExD):Array Value:=exC d.z d.a d.ex d.p d.o ⟨d.P,d.ps.length,d.cp⟩ ⟨d.G,d.gs.length,d.cg⟩ (.slice d.I d.nI d.cI)
abbrev ExD.R (d:ExD):Array Value:=rsC d.ex d.ch d.go (.slice d.I d.nI d.cI) (.slice d.C d.nC d.cC)
structure ExD.Ok (d:ExD) (w:World) (lo:Nat):Prop where
 hz: -1≤d.z∧d.z≤33
 ha:∀ j,j < 4→0≤d.a j∧d.a j≤1000
 hp:d.p.co.size≤640∧d.p.ex.size≤640
 hg:d.gs.length≤4∧∀ s∈d.gs,s.size≤4
 og:bJ w lo (.slice d.G d.gs.length d.cg) d.gs
 oi:ax lq w lo (.slice d.I d.nI d.cI) d.is
 hi:d.is.length≤(dE d.z).lJ∧∀ x∈d.is,uA x
 os:SyO w lo d.s
def M6 (w:World) (base g:Nat) (b:Int) (e:Ending) (w' :World):Prop:=∃ d:ExD,e= .returned (.tuple #[.agg d.X, .agg (syC d.s), .agg d.R])∧d.Ok w' w.heap.size∧aV w' base g b∧w.grownBy w' (some g)
theorem DU {fn:Func} (h:fn.results=#[.cell 4 54, .cell 5 36, .cell 6 57]) (tmps:Array Value) (w:World) (g k l:Nat) (d:ExD) (hp:tmps.getD 4 undef= .pointer (some ⟨g,0,none⟩)) (hq:tmps.getD 5 undef= .pointer (some ⟨k,0,none⟩)) (hr:tmps.getD 6 undef= .pointer (some ⟨l,0,none⟩))
  (hg:Blk w g 54 d.X) (hk:Blk w k 36 (syC d.s)) (hl:Blk w l 57 d.R):
  (results fn tmps).run Tryz.prog w= .ok (.tuple #[.agg d.X, .agg (syC d.s), .agg d.R]) w:=by
 have hp' :tmps[4]?.getD undef= .pointer (some ⟨g,0,none⟩):=by simpa using hp
 have hq' :tmps[5]?.getD undef= .pointer (some ⟨k,0,none⟩):=by simpa using hq
 have hr' :tmps[6]?.getD undef= .pointer (some ⟨l,0,none⟩):=by simpa using hr
 simp only [results,h,List.mapM_toArray,hp',hq',hr'];simp [hp',hq',hr',asAddr,BN hg,H9 hk,Ib hl]
theorem xL {a b c:World} {r s:Option Nat} (h:a.grownBy b r) (k:b.grownBy c s) (hs:∀ x,s=some x→a.heap.size≤x):a.grownBy c r:=
 ⟨k.os.trans h.os,k.tape.trans h.tape,k.output.trans h.output,Nat.le_trans h.size k.size,fun i hi hne=>(k.block i (Nat.lt_of_lt_of_le hi h.size) (fun e=>by have:=hs i e.symm;omega)).trans (h.block i hi hne)⟩
structure ExF (w W:World) (base g:Nat) (b:Int) (lo:Nat) (s:Sy) (ps:List Pm):Prop where
 src:aV W base g b
 only:w.grownBy W (some g)
 own:SyO W lo s
 tb:aJ W lo (.slice s.At s.nt s.ct) ps
 x3:Blk W w.heap.size 36 (syC s)
 r4:Blk W (w.heap.size+1) 54 dL
 r5:Blk W (w.heap.size+2) 36 syZ
 r6:Blk W (w.heap.size+3) 57 rsZ
 hg:g < lo
 hlo:lo≤w.heap.size
theorem ExF.start {w:World} {base g:Nat} {b:Int} {lo:Nat} {s:Sy} {ps:List Pm} (h:aV w base g b) (ho:SyO w lo s) (ht:aJ w lo (.slice s.At s.nt s.ct) ps) (hg:g < lo) (hlo:lo≤w.heap.size):
  ExF w ((((w.alloc (.cells (syC s) 36)).alloc (.cells dL 54)).alloc (.cells syZ 36)).alloc (.cells rsZ 57)) base g b lo s ps:=by
 have s1:(w.alloc (.cells (syC s) 36)).heap.size=w.heap.size+1:=by simp
 have s2:((w.alloc (.cells (syC s) 36)).alloc (.cells dL 54)).heap.size=w.heap.size+2:=by simp
 have s3:(((w.alloc (.cells (syC s) 36)).alloc (.cells dL 54)).alloc (.cells syZ 36)).heap.size=w.heap.size+3:=by simp
 have h1:=Blk.new (w.alloc (.cells (syC s) 36)) dL 54;have h2:=Blk.new ((w.alloc (.cells (syC s) 36)).alloc (.cells dL 54)) syZ 36;have h3:=Blk.new (((w.alloc (.cells (syC s) 36)).alloc (.cells dL 54)).alloc (.cells syZ 36)) rsZ 57;rw [s1] at h1;rw [s2] at h2;rw [s3] at h3;have B:Below w.heap.size w ((((w.alloc (.cells (syC s) 36)).alloc (.cells dL 54)).alloc (.cells syZ 36)).alloc (.cells rsZ 57)):=((((Below.refl _ _).alloc (Nat.le_refl _) _).alloc (by rw [s1];omega) _).alloc (by rw [s2];omega) _).alloc (by rw [s3];omega) _;exact ⟨h.below B,bG (World.grownBy.refl w _) B,ho.below B,ht.below B,(((Blk.new w (syC s) _).alloc _).alloc _).alloc _,(h1.alloc _).alloc _,h2.alloc _,h3,hg,hlo⟩
section
variable {w W W' :World} {base g lo:Nat} {b b' :Int} {s:Sy} {ps:List Pm}
theorem ExF.step (h:ExF w W base g b lo s ps) (hg:W.grownBy W' (some g)) (hs:aV W' base g b'):ExF w W' base g b' lo s ps:=by
 have h1:=h.hg;have h2:=h.hlo;exact ⟨hs,cK h.only hg,h.own.src h1 hg,h.tb.only hg h1,h.x3.src hg (by omega),h.r4.src hg (by omega),h.r5.src hg (by omega),h.r6.src hg (by omega),h1,h2⟩
theorem ExF.below (h:ExF w W base g b lo s ps) (hb:Below W.heap.size W W'):ExF w W' base g b lo s ps:=
 ⟨h.src.below hb,bG h.only hb,h.own.below hb,h.tb.below hb,h.x3.below hb,h.r4.below hb,h.r5.below hb,h.r6.below hb,h.hg,h.hlo⟩
theorem ExF.ctx (h:ExF w W base g b lo s ps) {k:Nat} {cs:Array Value} (hk:Blk W k 54 cs) (h1:w.heap.size+3 < k) (hg:W.grownBy W' (some k)):ExF w W' base g b lo s ps:=by
 have h2:=h.hg;have h3:=h.hlo;have hb:=h.src.1;exact ⟨h.src.grown hg (fun r e=>by injection e with e;exact ⟨by omega,by omega⟩),xL h.only hg (fun x e=>by injection e with e;omega),h.own.far hg hk (by decide),h.tb.far hg (fun q e=>by injection e with e;subst e;exact h.tb.blk hk (by decide) (by decide)),h.x3.grown hg (fun e=>by injection e with e;omega),h.r4.grown hg (fun e=>by injection e with e;omega),h.r5.grown hg (fun e=>by injection e with e;omega),h.r6.grown hg (fun e=>by injection e with e;omega),h2,h3⟩
end
structure ExG (w W:World) (base g:Nat) (b:Int) (lo:Nat) (s:Sy) (pl:List Pm) (g9 ga gc:Nat) (d:ExD):Prop where
 f:ExF w W base g b lo s pl
 x9:Blk W g9 36 (syC d.s)
 xa:Blk W ga 57 d.R
 xc:Blk W gc 54 d.X
 og:bJ W w.heap.size (.slice d.G d.gs.length d.cg) d.gs
 oi:ax lq W w.heap.size (.slice d.I d.nI d.cI) d.is
 os:SyO W w.heap.size d.s
 hp:d.p.co.size≤640∧d.p.ex.size≤640
 h9:w.heap.size+3 < g9∧w.heap.size+3 < ga∧w.heap.size+3 < gc
theorem ExG.proc {w W:World} {base g:Nat} {b:Int} {lo:Nat} {s:Sy} {pl:List Pm} {g9 ga gc:Nat} {d:ExD} (h:ExG w W base g b lo s pl g9 ga gc d) (q:Pc) (A:Option Addr) (n c:Nat) (hq:q.co.size≤640∧q.ex.size≤640):ExG w (W.setCells gc 1 (psC q (.slice A n c)).toList) base g b lo s pl g9 ga gc { d with p:=q,o:=⟨A,n,c⟩ } :=by
 have hg:=mY W gc 1 (psC q (.slice A n c)).toList;have N {k:Nat} {t:TypeId} {cs:Array Value} (hk:Blk W k t cs) (ht:t≠54):Blk (W.setCells gc 1 (psC q (.slice A n c)).toList) k t cs:=hk.grown hg (fun e=>by injection e with e;subst e;exact iO hk h.xc ht rfl);exact ⟨h.f.ctx h.xc h.h9.2.2 hg,N h.x9 (by decide),N h.xa (by decide),Blk.proc h.xc q A n c,oD h.og h.xc (by decide) hg,h.oi.far hg (fun q e r=>by injection r with r;subst r;exact ay h.oi h.xc (by decide) e),h.os.far hg h.xc (by decide),hq,h.h9⟩
theorem ExG.below {w W W' :World} {base g:Nat} {b:Int} {lo:Nat} {s:Sy} {pl:List Pm} {g9 ga gc:Nat} {d:ExD} (h:ExG w W base g b lo s pl g9 ga gc d) (hb:Below W.heap.size W W'):ExG w W' base g b lo s pl g9 ga gc d:=
 ⟨h.f.below hb,h.x9.below hb,h.xa.below hb,h.xc.below hb,h.og.below hb,h.oi.below hb,h.os.below hb,h.hp,h.h9⟩
theorem ExG.fin {w W:World} {base g:Nat} {b b' :Int} {lo:Nat} {s:Sy} {pl:List Pm} {g9 ga gc:Nat} {d:ExD} (h:ExG w W base g b lo s pl g9 ga gc d) (hb:b≤b') (hz: -1≤d.z∧d.z≤33) (ha:∀ j,j < 4→0≤d.a j∧d.a j≤1000) (hg:d.gs.length≤4∧∀ s∈d.gs,s.size≤4) (hi:d.is.length≤(dE d.z).lJ∧∀ x∈d.is,uA x):
  M6 w base g b' (.returned (.tuple #[.agg d.X, .agg (syC d.s), .agg d.R])) (((W.setRow (w.heap.size+1) d.X).setRow (w.heap.size+2) (syC d.s)).setRow (w.heap.size+3) d.R):=by
 have h2:=h.f.hg;have h3:=h.f.hlo;have h4:=h.f.src.1;have g1:=aA W (w.heap.size+1) d.X;have g2:=aA (W.setRow (w.heap.size+1) d.X) (w.heap.size+2) (syC d.s);have g3:=aA ((W.setRow (w.heap.size+1) d.X).setRow (w.heap.size+2) (syC d.s)) (w.heap.size+3) d.R;have q5:=h.f.r5.ah d.X (show w.heap.size+2≠w.heap.size+1 by omega);have q6:=(h.f.r6.ah d.X (show w.heap.size+3≠w.heap.size+1 by omega)).ah (syC d.s) (show w.heap.size+3≠w.heap.size+2 by omega);have T {k:Nat} {α:Type} {E:El α} {V:Value} {L:List α} {A B:World} {t:TypeId} {cs:Array Value} (ho:ax E A w.heap.size V L) (hk:Blk A k t cs) (hg:A.grownBy B (some k)) (h1:E.e≠t):ax E B w.heap.size V L:=
  ho.far hg (fun q e r=>by injection r with r;subst r;exact ay ho hk h1 e)
 refine ⟨d,rfl,⟨hz,ha,h.hp,hg,oD (oD (oD h.og h.f.r4 (by decide) g1) q5 (by decide) g2) q6 (by decide) g3,T (T (T h.oi h.f.r4 g1 (by decide)) q5 g2 (by decide)) q6 g3 (by decide),hi,((h.os.far g1 h.f.r4 (by decide)).far g2 q5 (by decide)).far g3 q6 (by decide)⟩,?_,jq (jq (jq h.f.only (by omega) _) (by omega) _) (by omega) _⟩;exact (((h.f.src.grown g1 (fun r e=>by injection e with e;exact ⟨by omega,by omega⟩)).grown g2 (fun r e=>by injection e with e;exact ⟨by omega,by omega⟩)).grown g3 (fun r e=>by injection e with e;exact ⟨by omega,by omega⟩)).more hb
theorem ExG.rows {w W:World} {base g:Nat} {b:Int} {lo:Nat} {s:Sy} {pl:List Pm} {g9 ga gc:Nat} {d:ExD} (h:ExG w W base g b lo s pl g9 ga gc d):Blk (((W.setRow (w.heap.size+1) d.X).setRow (w.heap.size+2) (syC d.s)).setRow (w.heap.size+3) d.R) (w.heap.size+1) 54 d.X∧Blk (((W.setRow (w.heap.size+1) d.X).setRow (w.heap.size+2) (syC d.s)).setRow (w.heap.size+3) d.R) (w.heap.size+2) 36 (syC d.s)∧Blk (((W.setRow (w.heap.size+1) d.X).setRow (w.heap.size+2) (syC d.s)).setRow (w.heap.size+3) d.R) (w.heap.size+3) 57 d.R:=
 ⟨((h.f.r4.row d.X).ah _ (by omega)).ah _ (by omega),((h.f.r5.ah d.X (by omega)).row _).ah _ (by omega),((h.f.r6.ah d.X (by omega)).ah _ (by omega)).row _⟩
attribute [local irreducible] exC gT bf
theorem z8 (w:World) (base g:Nat) (b:Int) (h:aV w base g b) (hb:b≤1000000000) (lo:Nat) (s:Sy) (ho:SyO w lo s) (hg:g < lo) (hlo:lo≤w.heap.size):
  Calls Tryz.prog 13 #[.pointer (some ⟨g,0,none⟩), .agg (syC s)] w (M6 w base g (b+203)):=by
 have HB:=Hd hb;obtain ⟨d0,m0,pl,hh⟩:=id ho;have F0:=Hd (ExF.start h ho hh.tb hg hlo);have HN:=Hd (hh.nt);have hgw:g < w.heap.size:=dC h;clear h hb ho hh hg hlo;go_in;go_upto_region 1 with fail;generalize (((w.alloc (.cells (syC s) 36)).alloc (.cells dL 54)).alloc (.cells syZ 36)).alloc (.cells rsZ 57)=w0 at *;have x2:=F0.o.x3.cell 2;have x3:=F0.o.x3.cell 3;have x4:=F0.o.x3.cell 4;go_wp2_with fail;clear x2 x3 x4;refine (oz w0 base g b F0.o.src (by have:=HB.o;omega) lo s.ta s.tb s.At s.nt s.ct pl F0.o.tb F0.o.hg (Nat.le_trans F0.o.hlo F0.o.only.size)).mono ?_;rintro e w1 ⟨pid,rfl,hs,hgr⟩;have F1:=Hd (F0.o.step hgr hs);clear hs hgr F0;go_wp2_with fail;refine (jy w1 base g (b+3) F1.o.src (by have:=HB.o;omega)).mono ?_;rintro e w2 ⟨z,a,vp,va,ps,gl,rfl,hz,ha,hpl,hgl,hps,hgs,hop,hog,hs,hgr⟩;obtain ⟨P,cp,rfl,hP⟩:=hop.strs;obtain ⟨G,cg,rfl,hG⟩:=id hog.strs;have F2:=Hd ((F1.o.step hgr hs).below ((Below.refl w2.heap.size w2).alloc (Nat.le_refl _) (.cells #[.int .i64 z, .int .i64 (a 0), .int .i64 (a 1), .int .i64 (a 2), .int .i64 (a 3), .slice P ps.length cp, .slice G gl.length cg] 51)));have HP:=Hd (hP.keep ((Below.refl w2.heap.size w2).alloc (Nat.le_refl _) (.cells #[.int .i64 z, .int .i64 (a 0), .int .i64 (a 1), .int .i64 (a 2), .int .i64 (a 3), .slice P ps.length cp, .slice G gl.length cg] 51)) (Nat.le_refl _));have HG:=Hd (hG.keep ((Below.refl w2.heap.size w2).alloc (Nat.le_refl _) (.cells #[.int .i64 z, .int .i64 (a 0), .int .i64 (a 1), .int .i64 (a 2), .int .i64 (a 3), .slice P ps.length cp, .slice G gl.length cg] 51)) (Nat.le_refl _));have OG:=Hd ((hog.mono F1.o.only.size).below ((Below.refl w2.heap.size w2).alloc (Nat.le_refl _) (.cells #[.int .i64 z, .int .i64 (a 0), .int .i64 (a 1), .int .i64 (a 2), .int .i64 (a 3), .slice P ps.length cp, .slice G gl.length cg] 51)));have X8:=Hd (Blk.new w2 #[.int .i64 z, .int .i64 (a 0), .int .i64 (a 1), .int .i64 (a 2), .int .i64 (a 3), .slice P ps.length cp, .slice G gl.length cg] 51);have HPL:=Hd hpl;have HGL:=Hd hgl;have HPS:=Hd hps;have HGS:=Hd hgs;have HZ:=Hd hz;have HA:=Hd ha;clear hs hgr F1 hop hog hP hG hpl hgl hps hgs hz ha;go_upto_region 2 with fail;generalize w2.alloc (.cells #[.int .i64 z, .int .i64 (a 0), .int .i64 (a 1), .int .i64 (a 2), .int .i64 (a 3), .slice P ps.length cp, .slice G gl.length cg] 51)=w3 at *;generalize w2.heap.size=g8 at *;have x0:=F2.o.x3.cell 0;have x1:=F2.o.x3.cell 1;have x2:=F2.o.x3.cell 2;have x3:=F2.o.x3.cell 3;have x4:=F2.o.x3.cell 4;have y0:=X8.o.cell 0;have y1:=X8.o.cell 1;have y2:=X8.o.cell 2;have y3:=X8.o.cell 3;have y4:=X8.o.cell 4;have y5:=X8.o.cell 5;have y6:=X8.o.cell 6;go_wp2_with fail;clear x0 x1 x2 x3 x4 y0 y1 y2 y3 y4 y5 y6;refine (xE z a P cp G cg ps gl s pid w3 _ F2.o.own (HP.o.more (Nat.le_of_lt X8.o.lt)) (HG.o.more (Nat.le_of_lt X8.o.lt)) (by have:=HPL.o;omega) (by have:=HGL.o;omega) (fun x hx=>by have:=HPS.o x hx;unfold maxLen;omega) (fun x hx=>by have:=HGS.o x hx;unfold maxLen;omega)).mono ?_;rintro e w4 ⟨s2,ex,ch,go,I,Cc,nI,cI,nC,cC,is,cs,rfl,hy,hoi,hil,_,hb⟩;have hba:=aT w4 (syC s2) (rsC ex ch go (.slice I nI cI) (.slice Cc nC cC)) 36 57;have hxa:=Blk.new (w4.alloc (.cells (syC s2) 36)) (rsC ex ch go (.slice I nI cI) (.slice Cc nC cC)) 57;rw [World.size_alloc] at hxa;have X9:=Hd ((Blk.new w4 (syC s2) 36).alloc (.cells (rsC ex ch go (.slice I nI cI) (.slice Cc nC cC)) 57));have XA:=Hd hxa;have F4:=Hd ((F2.o.below hb).below hba);have X8b:=Hd ((X8.o.below hb).below hba);have OG4:=Hd ((OG.o.below hb).below hba);have OI4:=Hd ((hoi.low F2.o.only.size).below hba);have OS4:=Hd ((hy.low F2.o.only.size).below hba);have HIL:=Hd hil;have HL4:=Hd (show w.heap.size+3 < w4.heap.size from by have h1:=(F2.o.below hb).r6.lt;omega);clear hb hba hxa hy hoi hil F2 X8 OG HP HG;go_upto_region 3 with fail;generalize ((w4.alloc (.cells (syC s2) 36)).alloc (.cells (rsC ex ch go (.slice I nI cI) (.slice Cc nC cC)) 57))=w5 at *;generalize w4.heap.size=g9 at *;have y0:=X8b.o.cell 0;have y1:=X8b.o.cell 1;have y2:=X8b.o.cell 2;have y3:=X8b.o.cell 3;have y4:=X8b.o.cell 4;have y5:=X8b.o.cell 5;have y6:=X8b.o.cell 6;have z0:=XA.o.cell 0;have z3:=XA.o.cell 3;have XC0:=Hd (Blk.new w5 dL 54);go_upto_region 4 with (first | (refine wpList_buildTo rfl 54 _ rfl (some 31) rfl (exC z a ex zPc ⟨none,0,0⟩ ⟨P,ps.length,cp⟩ ⟨G,gl.length,cg⟩ (.slice I nI cI)) (by as_aux_lemma=>kernel_rfl) ?_) | (refine Great.wpList_allocTo rfl (some 11) rfl (.pointer (some ⟨w5.heap.size,0,none⟩)) (.cells dL 54) (by as_aux_lemma=>kernel_rfl) ?_) | ((with_reducible refine ae ?_ 54 (.tmp 11) (.tmp 31) ?_ XC0.o (exC z a ex zPc ⟨none,0,0⟩ ⟨P,ps.length,cp⟩ ⟨G,gl.length,cg⟩ (.slice I nI cI)) ?_ ?_ ?_ ?_ ?_ ?_);(iterate 4 rfl);(exact qj _ _ _ _ _ _ _ _);(exact rE _ _ _ _ _ _ _ _);(exact rD _ _ _ _ _ _ _ _ _ _)));clear y0 y1 y2 y3 y4 y5 y6 z0 z3;have hb5:=ai ((Below.refl w5.heap.size w5).alloc (Nat.le_refl _) (.cells dL 54)) (Nat.le_refl _) (exC z a ex zPc ⟨none,0,0⟩ ⟨P,ps.length,cp⟩ ⟨G,gl.length,cg⟩ (.slice I nI cI));have E6:=Hd (show ExG w ((w5.alloc (.cells dL 54)).setRow w5.heap.size (exC z a ex zPc ⟨none,0,0⟩ ⟨P,ps.length,cp⟩ ⟨G,gl.length,cg⟩ (.slice I nI cI))) base g (b+203) lo s pl g9 (g9+1) w5.heap.size (⟨z,a,ex,zPc,⟨none,0,0⟩,P,cp,G,cg,ps,gl,I,nI,cI,is,s2,ch,go,Cc,nC,cC⟩:ExD) from ⟨F4.o.below hb5 |> fun h=>⟨h.src.more (by omega),h.only,h.own,h.tb,h.x3,h.r4,h.r5,h.r6,h.hg,h.hlo⟩,X9.o.below hb5,XA.o.below hb5,XC0.o.row _,OG4.o.below hb5,OI4.o.below hb5,OS4.o.below hb5,by show (0:Nat)≤640∧(0:Nat)≤640;omega,by have:=HL4.o;have:=XA.o.lt;omega⟩);clear hb5 X9 XA F4 X8b OG4 OI4 OS4 XC0;generalize (w5.alloc (.cells dL 54)).setRow w5.heap.size (exC z a ex zPc ⟨none,0,0⟩ ⟨P,ps.length,cp⟩ ⟨G,gl.length,cg⟩ (.slice I nI cI))=w6 at *;generalize w5.heap.size=gc at *;obtain ⟨D,hD⟩:∃ D,D=(⟨z,a,ex,zPc,⟨none,0,0⟩,P,cp,G,cg,ps,gl,I,nI,cI,is,s2,ch,go,Cc,nC,cC⟩:ExD):=⟨_,rfl⟩;rw [← hD] at E6;have HDZ:=Hd (show (-1≤D.z∧D.z≤33)∧(∀ j,j < 4→0≤D.a j∧D.a j≤1000)∧(D.gs.length≤4∧∀ s∈D.gs,s.size≤4)∧(D.is.length≤(dE D.z).lJ∧∀ x∈D.is,uA x) by rw [hD];exact ⟨HZ.o,HA.o,⟨HGL.o,HGS.o⟩,HIL.o⟩);clear hD;go_wp2_with fail;go_loopw [12] (fun ix wr=>∃ (k:Nat) (p:Pc) (o:Sl),k≤pl.length∧ix= .int .i64 k∧Hid (ExG w wr base g (b+203) lo s pl g9 (g9+1) gc { D with p:=p,o:=o })) (fun ix _=>pl.length - (intOf ix).toNat)
 case atStart=>exact ⟨0,D.p,D.o,Nat.zero_le _,rfl,E6⟩
 case round=>
  clear E6;obtain ⟨k,p,o,hk,rfl,HS⟩:=hrel;have WK:=Hd (bq hk (by have:=HS.o.f.tb.few;omega));have hn:=HN.o.1;have x4:wr.cell? ⟨w.heap.size,4,none⟩=some (.slice s.At s.nt s.ct):=HS.o.f.x3.cell 4;have hnl:s.nt=pl.length:=HS.o.f.tb.at'.1;by_cases hlt:k < pl.length;case neg=>
   have k1:¬ (k:Int) < (s.nt:Int):=(by rw [hnl];omega);clear hn hnl;go_upto_region 9 with fail;clear x4 k1;have E9:=Hd (HS.o.below (Below.refl wr.heap.size wr).drew);clear HS;obtain ⟨D9,hD9⟩:∃ D9,D9=({ D with p:=p,o:=o } :ExD):=⟨_,rfl⟩;rw [← hD9] at E9;have HD9:=Hd (show (-1≤D9.z∧D9.z≤33)∧(∀ j,j < 4→0≤D9.a j∧D9.a j≤1000)∧(D9.gs.length≤4∧∀ s∈D9.gs,s.size≤4)∧(D9.is.length≤(dE D9.z).lJ∧∀ x∈D9.is,uA x) by rw [hD9];exact HDZ.o);clear hD9;refine wp_region_held_drew (S:=(fun W=>Blk W g9 36 (syC D9.s)∧Blk W (g9+1) 57 D9.R∧Blk W gc 54 D9.X)) (by kernel_rfl) ⟨E9.o.x9,E9.o.xa,E9.o.xc⟩ (fun hHeld=>?_);generalize wr.drew=w9 at *;refine tk hHeld 0 ?_ ?_ ?_;rotate_left
   · intro W hSw;refine xK (x:= .tmp 11) ?_ ?_ (BN hSw.2.2)
     · rfl
     · rfl
   refine tk hHeld 1 ?_ ?_ ?_;rotate_left
   · intro W hSw;refine xK (x:= .tmp 9) ?_ ?_ (H9 hSw.1)
     · rfl
     · rfl
   refine tk hHeld 2 ?_ ?_ ?_;rotate_left
   · intro W hSw;refine xK (x:= .tmp 10) ?_ ?_ (Ib hSw.2.1)
     · rfl
     · rfl
   have hne:=E9.o.h9;refine rdy1 3 (fun K hK=>?_);refine ag (by rfl) 54 (.tmp 4) (.tmp 56) (by rfl) E9.o.f.r4 D9.X ?_ ?_ (qj _ _ _ _ _ _ _ _) (rE _ _ _ _ _ _ _ _) (rD _ _ _ _ _ _ _ _ _ _) ?_
   · go_simp
   · go_simp
   refine hK.o _ _ ⟨((E9.o.x9).ah D9.X (by omega)),((E9.o.xa).ah D9.X (by omega)),((E9.o.xc).ah D9.X (by omega))⟩ (fun hHeld=>?_);clear hK K;refine rdy1 4 (fun K hK=>?_);refine ag (by rfl) 36 (.tmp 5) (.tmp 57) (by rfl) ((E9.o.f.r5).ah D9.X (by omega)) (syC D9.s) ?_ ?_ (gU _) rfl (fq _) ?_
   · go_simp
   · go_simp
   refine hK.o _ _ ⟨((((E9.o.x9).ah D9.X (by omega))).ah (syC D9.s) (by omega)),((((E9.o.xa).ah D9.X (by omega))).ah (syC D9.s) (by omega)),((((E9.o.xc).ah D9.X (by omega))).ah (syC D9.s) (by omega))⟩ (fun hHeld=>?_);clear hK K;refine rdy1 5 (fun K hK=>?_);refine ag (by rfl) 57 (.tmp 6) (.tmp 58) (by rfl) ((((E9.o.f.r6).ah D9.X (by omega))).ah (syC D9.s) (by omega)) D9.R ?_ ?_ (ou _ _ _ _ _) rfl (lG _ _ _ _ _ _ _ _ _) ?_
   · go_simp
   · go_simp
   refine hK.o _ _ ⟨((((((E9.o.x9).ah D9.X (by omega))).ah (syC D9.s) (by omega))).ah D9.R (by omega)),((((((E9.o.xa).ah D9.X (by omega))).ah (syC D9.s) (by omega))).ah D9.R (by omega)),((((((E9.o.xc).ah D9.X (by omega))).ah (syC D9.s) (by omega))).ah D9.R (by omega))⟩ (fun hHeld=>?_);clear hK K;refine wpAnyH_done (by kernel_rfl) ?_ _;go_wp2_with fail;refine bodyPost_ret (DU (fn:=Tryz.f13) rfl _ _ (w.heap.size+1) (w.heap.size+2) (w.heap.size+3) D9 rfl rfl rfl E9.o.rows.1 E9.o.rows.2.1 E9.o.rows.2.2) rfl ?_;exact E9.o.fin (by omega) HD9.o.1 HD9.o.2.1 HD9.o.2.2.1 HD9.o.2.2.2
  case pos=>
   have k1:(k:Int) < (s.nt:Int):=(by rw [hnl];omega);have k2:(0:Int)≤(k:Int):=(by omega);obtain ⟨am,ea,hab,hcx⟩:=aU HS.o.f.tb.own k hlt;obtain ⟨⟨m0,m1,m2,m3,m4,m5,m6⟩,m7,m8,m9,m10,m11,m12,m13⟩:=dV (a:=am.add (k * 14)) hcx;rw [ea] at x4;have HM:=Hd (HS.o.f.tb.op _ (List.getElem_mem hlt)).2;clear hcx hn hnl ea hab;generalize pl[k]=x at *;by_cases DK:x.p.pid=pid;case neg=>
     have t1:=(aM DK).1;clear DK m1 m2 m3 m4 m5 m6 m7 m8 m9 m10 m11 m12 m13;obtain ⟨wk1,wk2⟩:=WK.o;go_wp2_with fail;clear wk1 wk2;go_roundw;case rel=>exact ⟨k+1,p,o,hlt,rfl,HS⟩
     case measure=>exact aN hlt _ rfl
   case pos=>
     have t1:=(bI DK).1;clear DK;have HT:=Hd (show wr.there gc 1 (psC x.p (.slice x.A x.ds.length x.c)).size from xJ HS.o.xc);obtain ⟨wk1,wk2⟩:=WK.o;go_wp2_with ((with_reducible refine wpList_store_mid ?_ 47 (.tmp 55) (.tmp 54) ?_ gc 1 (psC x.p (.slice x.A x.ds.length x.c)) ?_ ?_ HT.o ?_ ?_ ?_);(iterate 4 rfl);(exact ig _ _);(exact rQ _ _ _ _));clear wk1 wk2 m0 m1 m2 m3 m4 m5 m6 m7 m8 m9 m10 m11 m12 m13;(try dsimp only [Act.put]);go_roundw;case rel=>exact ⟨k+1,x.p,⟨x.A,x.ds.length,x.c⟩,hlt,rfl,Hd (HS.o.proc x.p x.A x.ds.length x.c ⟨HM.o.2.1,HM.o.2.2⟩)⟩
     case measure=>exact aN hlt _ rfl
end Go.Proofs.YtollifnnpihfdaaGreatDoor
