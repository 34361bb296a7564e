import Derived.Test.YtollifnnpihfdaaGreatDoorG43
set_option maxRecDepth 100000
set_option maxHeartbeats 64000000
set_option linter.all false
namespace Go.Proofs.YtollifnnpihfdaaGreatDoor
open Go.RowKit
def PY (w:World) (A:Option Addr) (L:List Rc):Prop:=∃ xs:List Rm,xs.map (·.r)=L∧AtE ER w w.heap.size A xs∧∀ x∈xs,AtE EP w w.heap.size x.A x.r.ps
theorem bZ.at {w:World} {base:Nat} {A:Option Addr} {n c:Nat} {L:List Rc} (h:bZ w base (.slice A n c) L):PY w A L∧n=L.length:=by
 obtain ⟨xs,e,h1,h2⟩:=h;obtain ⟨A',c',e2,h3⟩:=h1.at;injection e2 with e3 e4 e5;subst e3 e4;refine ⟨⟨xs,e,h3,fun x hx=>?_⟩,by rw [← e,List.length_map]⟩;obtain ⟨A1,c1,e6,h4⟩:=(h2 x hx).at;injection e6 with e7 _ _;rw [e7];exact h4
theorem BQ {w:World} {a:Addr} {x:Rm} (h:∀ j,j < 4→w.cell? (a.add j)=(ER.C x)[j]?):(loadVar 77 a).run Tryz.prog w= .ok (rcV x.r x.sl) w:=
 oP (cs:=rcC x.r x.sl) (fun j v hv=>by
  have hj:j < 4:=(List.getElem?_eq_some_iff.1 hv).1;rw [h j hj];exact hv) Tryz.underlying77 rfl (Kc _ _)
attribute [-go_sem] loadVar
theorem Md (L:List Rc) (A B:Option Addr) (n ca cb:Nat) (hn:n=L.length) (hl:n≤1000000) (hps:∀ r∈L,r.ps.length≤1000000) (w:World) (ha:PY w A L) (hb:PY w B L):
  Calls Tryz.prog 16 #[.slice A n ca, .slice B n cb] w fun e w' =>e= .returned (.bool true)∧Below w.heap.size w w' :=by
 obtain ⟨xs,ex,hx,hxp⟩:=ha;obtain ⟨ys,ey,hy,hyp⟩:=hb;have HX:=Hd hx;have HY:=Hd hy;have HXP:=Hd hxp;have HYP:=Hd hyp;have HN:=Hd hn;have HL:=Hd hl;have HXL:=Hd (show xs.length=n by rw [hn, ← ex,List.length_map]);have HYL:=Hd (show ys.length=n by rw [hn, ← ey,List.length_map]);have HE:=Hd (show ∀ k (h1:k < xs.length) (h2:k < ys.length),ys[k].r=xs[k].r∧xs[k].r.ps.length≤1000000 from fun k h1 h2=>by
  have e1:(xs.map (·.r))[k]? =(ys.map (·.r))[k]? :=by rw [ex,ey]
  rw [List.getElem?_map,List.getElem?_map,List.getElem?_eq_getElem h1,List.getElem?_eq_getElem h2] at e1;refine ⟨(Option.some.inj e1).symm,hps _ ?_⟩;rw [← ex];exact List.mem_map.2 ⟨_,List.getElem_mem h1,rfl⟩)
 clear hx hy hxp hyp hn hl hps ex ey;go_in;go_wp2_with fail;go_loopw [5] (fun ix wr=>∃ k:Nat,k≤n∧ix= .int .i64 (k:Int)∧Hid (Below w.heap.size w wr)) (fun ix _=>n - (intOf ix).toNat);case atStart=>exact ⟨0,Nat.zero_le _,rfl,Hd (Below.refl _ _)⟩
 case round=>
  obtain ⟨k,hk,rfl,HB⟩:=hrel;by_cases hlt:k < n;case pos=>
   have hx:k < xs.length:=(by rw [HXL.o];exact hlt);have hy:k < ys.length:=(by rw [HYL.o];exact hlt);have k0:(0:Int)≤(k:Int):=(by omega);have kn:(k:Int) < (n:Int):=(by omega);obtain ⟨ad,rfl,hab,hcx⟩:=HX.o k hx;obtain ⟨bd,rfl,hbb,hcy⟩:=HY.o k hy;obtain ⟨hxy,hlen⟩:=HE.o k hx hy;have px:=HXP.o xs[k] (List.getElem_mem hx);have py:=HYP.o ys[k] (List.getElem_mem hy);generalize xs[k]=x at *;generalize ys[k]=y at *;obtain ⟨r0,A1,c1⟩:=x;obtain ⟨r,B1,c2⟩:=y;simp only at hxy hlen px py;subst hxy;have HCX:=Hd hcx;have HCY:=Hd hcy;have HPX:=Hd px;have HPY:=Hd py;have HLN:=Hd hlen;clear hcx hcy px py hlen;have hk9:k≤1000000:=(by have:=HL.o;omega);obtain ⟨q7,q8⟩:=bW hk9 (Nat.le_refl _);have Q7:=Hd (And.intro q7 q8);clear q7 q8;go_upto_region 6 with fail;refine wp_region_held_drew (S:=(fun W' =>Below w.heap.size w W')) (by kernel_rfl) HB.o.drew (fun hHeld=>?_);clear HB;refine tk hHeld 0 ?_ ?_ (tk hHeld 1 ?_ ?_ (tk hHeld 2 ?_ ?_ (tk hHeld 3 ?_ ?_ (tk hHeld 4 ?_ ?_ (tk hHeld 5 ?_ ?_ (tk hHeld 6 ?_ ?_ (tk hHeld 7 ?_ ?_ ?_)))))));iterate 8
     rotate_left
     · intro W hSw;have kk:=BQ (a:=ad.add (k * 4)) (fun j hj=>(hSw.cell (p:=(ad.add (k * 4)).add j) (by rw [aj,aj];exact hab)).trans (HCX.o j hj));have CP:=BQ (a:=bd.add (k * 4)) (fun j hj=>(hSw.cell (p:=(bd.add (k * 4)).add j) (by rw [aj,aj];exact hbb)).trans (HCY.o j hj));go_simp;try (with_reducible rfl)
   refine rdy1 8 (fun K hK=>?_);go_simp;go_at_call 31;refine (Og r A1 B1 r.ps.length c1 c2 rfl HLN.o _ ((HPX.o.keep hHeld (Nat.le_refl _)).more hHeld.size) ((HPY.o.keep hHeld (Nat.le_refl _)).more hHeld.size)).mono ?_;rintro e w2 ⟨rfl,hb2⟩;have hh:=aa hHeld hb2;clear hb2;go_simp;refine hK.o _ _ hh (fun hHeld=>?_);clear hK K;clear hh;refine tk hHeld 9 ?_ ?_ ?_;rotate_left
   · intro W hSw;go_simp;try (with_reducible rfl)
   have HB2:=Hd hHeld;refine wpAnyH_done (by kernel_rfl) ?_ _;go_simp;obtain ⟨q7,q8⟩:=Q7.o;go_wp2_with fail;clear q7 q8;go_roundw;case rel=>exact ⟨k+1,hlt,by go_num,HB2⟩
   case measure=>exact bq hlt _ rfl
  case neg=>
   obtain rfl:k=n:=(by omega);have kn:¬ (k:Int) < (k:Int):=(by omega);go_wp2_with fail;go_ret;exact ⟨rfl,HB.o⟩
end Go.Proofs.YtollifnnpihfdaaGreatDoor
namespace Go.Proofs.YtollifnnpihfdaaGreatDoor
open Go.RowKit
abbrev poA (u v:Value):Array Value:=#[u,v]
theorem lX (u v:Value):(Tryz.prog.info? 41).map (·.size)=some (poA u v).size:=by show _=some 2;kernel_rfl
theorem jH (A B:Option Addr) (n c m d:Nat):(poA (.slice A n c) (.slice B m d)).all (·.oneCell')=true:=by simp [Value.oneCell']
theorem nG {fn:Func} {i j:Nat} (h:fn.results=#[.cell i 41, .tmp j]) (tmps:Array Value) (w:World) (g:Nat) (u v:Value) (hp:tmps.getD i undef= .pointer (some ⟨g,0,none⟩)) (hg:Blk w g 41 (poA u v)):
  (results fn tmps).run Tryz.prog w= .ok (.tuple #[.agg (poA u v),tmps.getD j undef]) w:=by
 have hp' :tmps[i]?.getD undef= .pointer (some ⟨g,0,none⟩):=by simpa using hp
 simp [results,h,hp',asAddr,run_loadVar_row w g 41 41 (poA u v) (0,0) _ hg Tryz.underlying41 rfl (lX u v)]
theorem bX.row {w:World} {base g:Nat} {v:Value} {xs:List Ru} {t:TypeId} {cs:Array Value} (h:bX w base v xs) (hg:Blk w g t cs) (h1:(90:Nat)≠t) (h2:(85:Nat)≠t) (cs' :Array Value):bX (w.setRow g cs') base v xs:=
 h.far (aJ w g cs') (fun k e=>by injection e with e;subst e;exact ⟨ay h.own hg h1,fun x hx=>ay (sP (h.ts x hx).1) hg h2⟩)
structure eY (w:World) (base:Nat) (u v:Value) (m:Nat):Prop where
 rules:∃ xs,bX w base u xs∧xs.length≤m
 Vm:∃ ws,ax EWa w base v ws∧ws.length≤m
theorem eY.nil (w:World) (base m:Nat):eY w base (.slice none 0 0) (.slice none 0 0) m:=⟨⟨[],bX.nil _ _,Nat.zero_le _⟩,⟨[],ax.nil _ _,Nat.zero_le _⟩⟩
theorem eY.below {w w' :World} {base m:Nat} {u v:Value} (h:eY w base u v m) (hb:Below w.heap.size w w'):eY w' base u v m:=by
 obtain ⟨⟨xs,h1,h2⟩,⟨ws,h3,h4⟩⟩:=h;exact ⟨⟨xs,h1.below hb,h2⟩,⟨ws,h3.below hb,h4⟩⟩
theorem eY.low {w:World} {base b m:Nat} {u v:Value} (h:eY w base u v m) (hb:b≤base):eY w b u v m:=by
 obtain ⟨⟨xs,h1,h2⟩,⟨ws,h3,h4⟩⟩:=h;exact ⟨⟨xs,h1.low hb,h2⟩,⟨ws,h3.low hb,h4⟩⟩
theorem eY.more {w:World} {base m m' :Nat} {u v:Value} (h:eY w base u v m) (hm:m≤m'):eY w base u v m' :=by
 obtain ⟨⟨xs,h1,h2⟩,⟨ws,h3,h4⟩⟩:=h;exact ⟨⟨xs,h1,by omega⟩,⟨ws,h3,by omega⟩⟩
theorem eY.only {w w' :World} {base g m:Nat} {u v:Value} (h:eY w base u v m) (hg:w.grownBy w' (some g)) (hl:g < base):eY w' base u v m:=by
 obtain ⟨⟨xs,h1,h2⟩,⟨ws,h3,h4⟩⟩:=h;exact ⟨⟨xs,h1.only hg hl,h2⟩,⟨ws,h3.far hg (fun k e r=>by injection r with r;subst r;have:=h3.ge _ e;omega),h4⟩⟩
def PaP (m:Nat) (w:World) (e:Ending) (w' :World):Prop:=∃ (u v:Value) (k:Int),e= .returned (.tuple #[.agg (poA u v), .int .i64 k])∧eY w' w.heap.size u v (m+1)∧Below w.heap.size w w'
structure AfF (w wr:World) (u1 u2:Value) (xs:List Ru) (A1:Option Addr) (ws:List Wa) (A2:Option Addr) (r:Rul) (v:Value) (Tr:Option Addr) (A:Option Addr) (n c:Nat) (ds:List Dm) (Am:Option Addr) (nm cm:Nat) (ms:List Mt):Prop where
 low:Below w.heap.size w wr
 src:bR wr w.heap.size A ds
 mts:AtE EMt wr w.heap.size Am ms
 rul:jr wr w.heap.size A1 xs
 wat:AtE EWa wr w.heap.size A2 ws
 tst:aY wr w.heap.size Tr r.ts
 P:Blk wr w.heap.size 41 (poA u1 u2)
 V:Blk wr (w.heap.size+1) 31 #[slV A n c,slV Am nm cm]
 X:dF wr (w.heap.size+1+1) r v
 R:Blk wr (w.heap.size+1+1+1) 41 (poA (.slice none 0 0) (.slice none 0 0))
section
variable {w wr w' :World} {u1 u2:Value} {xs:List Ru} {A1:Option Addr} {ws:List Wa} {A2:Option Addr} {r:Rul} {v:Value} {Tr:Option Addr} {A Am:Option Addr} {n c nm cm:Nat} {ds:List Dm} {ms:List Mt}
theorem AfF.grow (h:AfF w wr u1 u2 xs A1 ws A2 r v Tr A n c ds Am nm cm ms) (hb:Below wr.heap.size wr w'):AfF w w' u1 u2 xs A1 ws A2 r v Tr A n c ds Am nm cm ms:=
 ⟨h.low.trans (hb.mono h.low.size),h.src.keep hb h.low.size,h.mts.keep hb h.low.size,h.rul.keep hb h.low.size,h.wat.keep hb h.low.size,h.tst.keep hb h.low.size,h.P.below hb,h.V.below hb,Blk.below h.X hb,h.R.below hb⟩
theorem AfF.alloc (h:AfF w wr u1 u2 xs A1 ws A2 r v Tr A n c ds Am nm cm ms) (o:Obj):AfF w (wr.alloc o) u1 u2 xs A1 ws A2 r v Tr A n c ds Am nm cm ms:=h.grow ((Below.refl _ _).alloc (Nat.le_refl _) _)
theorem AfF.start (w:World) (hf:bR w w.heap.size A ds) (hm:AtE EMt w w.heap.size Am ms) (hr:jr w w.heap.size A1 xs) (hw:AtE EWa w w.heap.size A2 ws) (ht:aY w w.heap.size Tr r.ts):AfF w ((((w.alloc (.cells (poA u1 u2) 41)).alloc (.cells #[slV A n c,slV Am nm cm] 31)).alloc (.cells (bK r v) 90)).alloc (.cells (poA (.slice none 0 0) (.slice none 0 0)) 41)) u1 u2 xs A1 ws A2 r v Tr A n c ds Am nm cm ms:=by
 have s1:(w.alloc (.cells (poA u1 u2) 41)).heap.size=w.heap.size+1:=by simp
 have s2:((w.alloc (.cells (poA u1 u2) 41)).alloc (.cells #[slV A n c,slV Am nm cm] 31)).heap.size=w.heap.size+1+1:=by simp
 have s3:(((w.alloc (.cells (poA u1 u2) 41)).alloc (.cells #[slV A n c,slV Am nm cm] 31)).alloc (.cells (bK r v) 90)).heap.size=w.heap.size+1+1+1:=by simp
 have h1:=Blk.new (w.alloc (.cells (poA u1 u2) 41)) #[slV A n c,slV Am nm cm] 31;rw [s1] at h1;have h2:=Blk.new ((w.alloc (.cells (poA u1 u2) 41)).alloc (.cells #[slV A n c,slV Am nm cm] 31)) (bK r v) 90;rw [s2] at h2;have h3:=Blk.new (((w.alloc (.cells (poA u1 u2) 41)).alloc (.cells #[slV A n c,slV Am nm cm] 31)).alloc (.cells (bK r v) 90)) (poA (.slice none 0 0) (.slice none 0 0)) 41;rw [s3] at h3;have B0:Below w.heap.size w ((((w.alloc (.cells (poA u1 u2) 41)).alloc (.cells #[slV A n c,slV Am nm cm] 31)).alloc (.cells (bK r v) 90)).alloc (.cells (poA (.slice none 0 0) (.slice none 0 0)) 41)):=
  ((((Below.refl w.heap.size w).alloc (Nat.le_refl _) _).alloc (by rw [s1];omega) _).alloc (by rw [s2];omega) _).alloc (by rw [s3];omega) _
 exact ⟨B0,hf.keep B0 (Nat.le_refl _),hm.keep B0 (Nat.le_refl _),hr.keep B0 (Nat.le_refl _),hw.keep B0 (Nat.le_refl _),ht.keep B0 (Nat.le_refl _),((Blk.new w _ _).alloc _).alloc _ |>.alloc _,(h1.alloc _).alloc _,h2.alloc _,h3⟩
theorem AfF.fail (h:AfF w wr u1 u2 xs A1 ws A2 r v Tr A n c ds Am nm cm ms) (m:Nat) (k:Int):PaP m w (.returned (.tuple #[.agg (poA (.slice none 0 0) (.slice none 0 0)), .int .i64 k])) (wr.setRow (w.heap.size+1+1+1) (poA (.slice none 0 0) (.slice none 0 0))):=⟨_,_,k,rfl,eY.nil _ _ _,ak h.low (by omega) _⟩
theorem AfF.good (h:AfF w wr u1 u2 xs A1 ws A2 r v Tr A n c ds Am nm cm ms) {m:Nat} {a b:Value} {ys:List Ru} {zs:List Wa} (ha:bX wr w.heap.size a ys) (hb:ax EWa wr w.heap.size b zs) (hy:ys.length≤m+1) (hz:zs.length≤m+1) (cs:Array Value):PaP m w (.returned (.tuple #[.agg (poA a b), .int .i64 0])) (wr.setRow (w.heap.size+1+1+1) cs):=
 ⟨a,b,0,rfl,⟨⟨ys,ha.row h.R (by decide) (by decide) _,hy⟩,⟨zs,hb.mE (ay hb h.R (by decide)) _,hz⟩⟩,ak h.low (by omega) _⟩
end
attribute [local irreducible] bH
theorem qX (nE:Cb) (m:Nat) (hm9:m≤900) (xs:List Ru) (A1:Option Addr) (n1 c1:Nat) (hn1:n1=xs.length) (hx:xs.length≤m) (hc1:n1≤c1) (ws:List Wa) (A2:Option Addr) (n2 c2:Nat) (hn2:n2=ws.length) (hw9:ws.length≤m) (r:Rul) (Tr:Option Addr) (tn tc:Nat) (htn:tn=r.ts.length) (hg:GdR r) (front:Bool) (ds:List Dm) (A:Option Addr) (n c:Nat) (hn:n=ds.length) (ms:List Mt) (Am:Option Addr) (nm cm:Nat) (hnm:nm=ms.length) (hl:nm≤1000) (hok:SOk (ds.map Dm.dv) ms) (w:World) (hf:bR w w.heap.size A ds) (hm:AtE EMt w w.heap.size Am ms) (hr:jr w w.heap.size A1 xs) (hw:AtE EWa w w.heap.size A2 ws) (ht:aY w w.heap.size Tr r.ts):
  Calls Tryz.prog 42 #[.agg (poA (.slice A1 n1 c1) (.slice A2 n2 c2)), .agg #[slV A n c,slV Am nm cm],oF r (.slice Tr tn tc), .bool front] w (PaP m w):=by
 have HF:=Hd nE;have HN:=Hd hn;have HNM:=Hd hnm;have HL:=Hd hl;have HOK:=Hd hok;have HG:=Hd hg;have HTN:=Hd htn;have HN1:=Hd hn1;have HC1:=Hd hc1;have HN2:=Hd hn2;have HX:=Hd hx;have HW:=Hd hw9;have HM9:=Hd hm9;have S0:=Hd (AfF.start (u1:= .slice A1 n1 c1) (u2:= .slice A2 n2 c2) (v:= .slice Tr tn tc) (n:=n) (c:=c) (nm:=nm) (cm:=cm) w hf hm hr hw ht);clear hf hm hr hw ht hn hnm hl hok hg htn hn1 hc1 hn2 hx hw9 hm9 nE;go_in;go_upto_region 1 with fail;generalize (((w.alloc (.cells (poA (.slice A1 n1 c1) (.slice A2 n2 c2)) 41)).alloc (.cells #[slV A n c,slV Am nm cm] 31)).alloc (.cells (bK r (.slice Tr tn tc)) 90)).alloc (.cells (poA (.slice none 0 0) (.slice none 0 0)) 41)=w0 at *;have x0:=S0.o.X.cell 0;have x1:=S0.o.X.cell 1;have x2:=S0.o.X.cell 2;have x3:=S0.o.X.cell 3;have x4:=S0.o.X.cell 4;have x5:=S0.o.X.cell 5;have x6:=S0.o.X.cell 6;have x7:=S0.o.X.cell 7;have p0:=S0.o.P.cell 0;go_wp2_with fail;clear x0 x1 x2 x3 x4 x5 x6 x7 p0;refine (PW xs A1 n1 c1 HN1.o (by have:=HN1.o;have:=HX.o;have:=HM9.o;omega) HC1.o r Tr tn tc HTN.o HG.o front w0 (S0.o.rul.more S0.o.low.size) (S0.o.tst.more S0.o.low.size)).mono ?_;rintro e w1 ⟨k,v1,ys,rfl,ho,hyl,hb⟩;have S1:=Hd (S0.o.grow hb);have O1:=Hd (ho.low S0.o.low.size);have HY:=Hd (show ys.length≤m+1 by have:=HX.o;omega);obtain ⟨B1,d1,rfl,_⟩:=ho.at;clear hb ho hyl S0;by_cases hk:k=0;case neg=>
  have q1:=(bT hk).2;go_wp2_with ((with_reducible refine ae ?_ 41 (.tmp 8) (.tmp 23) ?_ S1.o.R (poA (.slice none 0 0) (.slice none 0 0)) ?_ ?_ ?_ ?_ ?_ ?_);(iterate 4 rfl);(exact lX _ _);rfl;(exact jH _ _ _ _ _ _));refine bodyPost_ret (nG (fn:=Tryz.f42) rfl _ _ (w.heap.size+1+1+1) (.slice none 0 0) (.slice none 0 0) rfl (Blk.row S1.o.R _)) rfl ?_;exact S1.o.fail _ _
 case pos=>
  have q1:=(dY hk).2;clear hk;have x0:=S1.o.X.cell 0;have x1:=S1.o.X.cell 1;have x2:=S1.o.X.cell 2;have x3:=S1.o.X.cell 3;have x4:=S1.o.X.cell 4;have x5:=S1.o.X.cell 5;have x6:=S1.o.X.cell 6;have x7:=S1.o.X.cell 7;have v0:=S1.o.V.cell 0;have v1:=S1.o.V.cell 1;go_wp2_with fail;clear x0 x1 x2 x3 x4 x5 x6 x7 v0 v1 q1;refine (IW HF.o r (.slice Tr tn tc) (by have:=HG.o.1.pa;omega) ds A n c HN.o ms Am nm cm HNM.o HL.o HOK.o w1 (S1.o.src.more S1.o.low.size) (S1.o.mts.more S1.o.low.size)).mono ?_;rintro e w2 ⟨x,k2,rfl,hb⟩;have S3W:=(S1.o.grow hb).R.lt;obtain ⟨y1,y2,y3,y4,y5,y6⟩:=x;have S3:=Hd ((S1.o.grow hb).alloc (.cells (waC ⟨y1,y2,y3,y4,y5,y6⟩) 92));have F3:=Hd (Blk.new w2 (waC ⟨y1,y2,y3,y4,y5,y6⟩) 92);have O3:=Hd ((O1.o.below hb).alloc (.cells (waC ⟨y1,y2,y3,y4,y5,y6⟩) 92));clear hb S1 O1;have HGB:=Hd (show w.heap.size+1+1+1 < w2.heap.size from S3W);clear S3W;go_upto_region 5 with fail;generalize w2.alloc (.cells (waC ⟨y1,y2,y3,y4,y5,y6⟩) 92)=w3 at *;by_cases hk:k2=0;case neg=>
   have q1:=(bT hk).2;go_wp2_with ((with_reducible refine ae ?_ 41 (.tmp 8) (.tmp 33) ?_ S3.o.R (poA (.slice none 0 0) (.slice none 0 0)) ?_ ?_ ?_ ?_ ?_ ?_);(iterate 4 rfl);(exact lX _ _);rfl;(exact jH _ _ _ _ _ _));refine bodyPost_ret (nG (fn:=Tryz.f42) rfl _ _ (w.heap.size+1+1+1) (.slice none 0 0) (.slice none 0 0) rfl (Blk.row S3.o.R _)) rfl ?_;exact S3.o.fail _ _
  case pos=>
   have q1:=(dY hk).2;clear hk;cases front with
   | true=>
    have f0:=F3.o.cell 0;have f1:=F3.o.cell 1;have f2:=F3.o.cell 2;have f3:=F3.o.cell 3;have f4:=F3.o.cell 4;have f5:=F3.o.cell 5;have p1:=(S3.o.alloc (.cells (waC (⟨y1,y2,y3,y4,y5,y6⟩:Wa)) 92)).P.cell 1;have L4:=Hd (ax.lit EWa w3 w.heap.size (waC (⟨y1,y2,y3,y4,y5,y6⟩:Wa)) (⟨y1,y2,y3,y4,y5,y6⟩:Wa) rfl S3.o.low.size);have S4:=Hd (S3.o.alloc (.cells (waC (⟨y1,y2,y3,y4,y5,y6⟩:Wa)) 92));have O4:=Hd (O3.o.alloc (.cells (waC (⟨y1,y2,y3,y4,y5,y6⟩:Wa)) 92));go_wp2_with (at_builtin;refine ah EWa rfl (.tmp 38) (.tmp 40) rfl w.heap.size (.slice (some ⟨w3.heap.size,0,none⟩) 1 1) [(⟨y1,y2,y3,y4,y5,y6⟩:Wa)] rfl L4.o w.heap.size A2 n2 c2 ws rfl HN2.o S4.o.wat (by have:=HW.o;have:=HM9.o;simp;omega) S4.o.low.size ?_);intro v5 w5 ho5 hg5 EU;have hb5:Below w3.heap.size w3 w5:=(((Below.refl w3.heap.size w3).alloc (Nat.le_refl _) (.cells (waC (⟨y1,y2,y3,y4,y5,y6⟩:Wa)) 92))).grown hg5 (by simp) (fun q e=>by simp [Value.ownBlock] at e;omega);have S5:=Hd (S3.o.grow hb5);have O5:=Hd (O3.o.below hb5);obtain ⟨A5,c5,rfl,_⟩:=ho5.at;have W5:=Hd ho5;clear f0 f1 f2 f3 f4 f5 p1 L4 S4 O4 ho5 hg5 EU hb5 S3 O3 F3 q1;go_wp2_with ((with_reducible refine ae ?_ 41 (.tmp 8) (.tmp 42) ?_ S5.o.R (poA (.slice B1 ys.length d1) (.slice A5 ([(⟨y1,y2,y3,y4,y5,y6⟩:Wa)] ++ ws).length c5)) ?_ ?_ ?_ ?_ ?_ ?_);(iterate 4 rfl);(exact lX _ _);rfl;(exact jH _ _ _ _ _ _));refine bodyPost_ret (nG (fn:=Tryz.f42) rfl _ _ (w.heap.size+1+1+1) (.slice B1 ys.length d1) (.slice A5 ([(⟨y1,y2,y3,y4,y5,y6⟩:Wa)] ++ ws).length c5) rfl (Blk.row S5.o.R _)) rfl ?_;exact S5.o.good O5.o W5.o HY.o (by have:=HW.o;simp;omega) _
   | false=>
    go_upto_region 9 with fail;clear q1;have BD:=Hd (Below.refl w3.heap.size w3).drew;refine wp_region_held_drew (S:=(fun W' =>Blk W' w.heap.size 41 (poA (.slice A1 n1 c1) (.slice A2 n2 c2))∧Blk W' w2.heap.size 92 (waC (⟨y1,y2,y3,y4,y5,y6⟩:Wa)))) (by kernel_rfl) ⟨S3.o.P.below BD.o,F3.o.below BD.o⟩ (fun hHeld=>?_);generalize w3.drew=wd at *;refine tk hHeld 0 ?_ ?_ (tk hHeld 1 ?_ ?_ (tk hHeld 2 ?_ ?_ (tk hHeld 4 ?_ ?_ ?_)));iterate 4
      rotate_left
      · intro W' hSw;have p1:=hSw.1.cell 1;have f0:=hSw.2.cell 0;have f1:=hSw.2.cell 1;have f2:=hSw.2.cell 2;have f3:=hSw.2.cell 3;have f4:=hSw.2.cell 4;have f5:=hSw.2.cell 5;go_simp;try (with_reducible rfl)
    refine wpAnyH_ready (rs:= [3,5]) (by kernel_rfl) (by simp) ?_;refine (AllReadyH.cons rfl (fun K hK=>?_) (AllReadyH.cons rfl (fun K hK=>?_) AllReadyH.nil))
    · have S4:=Hd (S3.o.grow BD.o);refine aI EWa (by rfl) (.const (.slice none 0 0)) (.tmp 45) (by rfl) w3.heap.size (.slice none 0 0) [] (by rfl) (ax.nil _ _) w.heap.size A2 n2 c2 ws (by rfl) HN2.o S4.o.wat (by have:=HW.o;have:=HM9.o;simp;omega) BD.o.size ?_;intro v5 w5 ho5 hg5 EU;have ho5:ax EWa w5 w3.heap.size v5 ws:=ho5;have BN:=Hd (BD.o.grown hg5 BD.o.size (fun q e=>by cases e));obtain ⟨A5,c5,rfl,_⟩:=ho5.at;have W5:=Hd ho5;clear BD;have BD:=BN;clear BN;refine hK.o _ _ ⟨S3.o.P.below BD.o,F3.o.below BD.o⟩ (fun hHeld=>?_);clear hK K hg5 EU ho5;refine rdy1 5 (fun K hK=>?_);have BN:=Hd (BD.o.alloc BD.o.size (.cells (waC (⟨y1,y2,y3,y4,y5,y6⟩:Wa)) 92));have RW:=Hd (aM EWa w5 (waC (⟨y1,y2,y3,y4,y5,y6⟩:Wa)) 92 (⟨y1,y2,y3,y4,y5,y6⟩:Wa) rfl (Nat.lt_succ_self w5.heap.size));go_simp;clear BD;have BD:=BN;clear BN;refine hK.o _ _ ⟨S3.o.P.below BD.o,F3.o.below BD.o⟩ (fun hHeld=>?_);clear hK K;have W6:=Hd (W5.o.alloc (.cells (waC (⟨y1,y2,y3,y4,y5,y6⟩:Wa)) 92));refine rdy1 6 (fun K hK=>?_);refine aI EWa (by rfl) (.tmp 46) (.tmp 48) (by rfl) w3.heap.size (.slice A5 ws.length c5) ws (by rfl) W6.o (w5.heap.size+1) (some ⟨w5.heap.size,0,none⟩) 1 1 [(⟨y1,y2,y3,y4,y5,y6⟩:Wa)] (by rfl) (by rfl) RW.o (by have:=HW.o;have:=HM9.o;simp;omega) BD.o.size ?_;intro v7 w7 ho7 hg7 Al;have BN:=Hd (BD.o.grown hg7 BD.o.size (fun q e=>W6.o.ge q e));obtain ⟨A7,c7,rfl,_⟩:=ho7.at;have HL7:=Hd (show (ws ++ [(⟨y1,y2,y3,y4,y5,y6⟩:Wa)]).length=ws.length+1 by simp);generalize (ws ++ [(⟨y1,y2,y3,y4,y5,y6⟩:Wa)]).length=l7 at *;have W7:=Hd ho7;clear BD;have BD:=BN;clear BN;refine hK.o _ _ ⟨S3.o.P.below BD.o,F3.o.below BD.o⟩ (fun hHeld=>?_);clear hK K hg7 Al ho7;refine tk hHeld 7 ?_ ?_ ?_;rotate_left
      · intro W' hSw;go_simp;try (with_reducible rfl)
      have S7:=Hd (S3.o.grow BD.o);have O7:=Hd (O3.o.below BD.o);refine rdy1 8 (fun K hK=>?_);refine bg (by rfl) 41 (.tmp 8) (.tmp 50) (by rfl) S7.o.R (poA (.slice B1 ys.length d1) (.slice A7 l7 c7)) ?_ ?_ (lX _ _) rfl (jH _ _ _ _ _ _) ?_
      · go_simp
      · go_simp
      have RR:=Hd (Blk.row S7.o.R (poA (.slice B1 ys.length d1) (.slice A7 l7 c7)));have P8:=Hd (S7.o.good O7.o (W7.o.low S3.o.low.size) HY.o (by have:=HW.o;simp;omega) (poA (.slice B1 ys.length d1) (.slice A7 l7 c7)));have HLT:=Hd (show w.heap.size+1+1+1 < w2.heap.size from HGB.o);refine hK.o _ _ ⟨S7.o.P.grown (aJ w7 (w.heap.size+1+1+1) (poA (.slice B1 ys.length d1) (.slice A7 l7 c7))) (fun e=>by injection e with e;omega),(F3.o.below BD.o).grown (aJ w7 (w.heap.size+1+1+1) (poA (.slice B1 ys.length d1) (.slice A7 l7 c7))) (fun e=>by injection e with e;have:=HLT.o;omega)⟩ (fun hHeld=>?_);clear hK K;refine tk hHeld 9 ?_ ?_ ?_;rotate_left
      · intro W' hSw;go_simp;try (with_reducible rfl)
      refine wpAnyH_done (by kernel_rfl) ?_ _;go_simp;go_wp2_with fail;refine bodyPost_ret (nG (fn:=Tryz.f42) rfl _ _ (w.heap.size+1+1+1) (.slice B1 ys.length d1) (.slice A7 l7 c7) rfl RR.o) rfl ?_;exact P8.o
    · have BN:=Hd (BD.o.alloc BD.o.size (.cells (waC (⟨y1,y2,y3,y4,y5,y6⟩:Wa)) 92));have RW:=Hd (aM EWa wd (waC (⟨y1,y2,y3,y4,y5,y6⟩:Wa)) 92 (⟨y1,y2,y3,y4,y5,y6⟩:Wa) rfl (Nat.lt_succ_self wd.heap.size));go_simp;clear BD;have BD:=BN;clear BN;refine hK.o _ _ ⟨S3.o.P.below BD.o,F3.o.below BD.o⟩ (fun hHeld=>?_);clear hK K;refine rdy1 3 (fun K hK=>?_);have S4:=Hd (S3.o.grow BD.o);refine aI EWa (by rfl) (.const (.slice none 0 0)) (.tmp 45) (by rfl) w3.heap.size (.slice none 0 0) [] (by rfl) (ax.nil _ _) w.heap.size A2 n2 c2 ws (by rfl) HN2.o S4.o.wat (by have:=HW.o;have:=HM9.o;simp;omega) BD.o.size ?_;intro v5 w5 ho5 hg5 EU;have ho5:ax EWa w5 w3.heap.size v5 ws:=ho5;have BN:=Hd (BD.o.grown hg5 BD.o.size (fun q e=>by cases e));obtain ⟨A5,c5,rfl,_⟩:=ho5.at;have W5:=Hd ho5;have RW2:=Hd (RW.o.keep ((Below.refl (wd.heap.size+1) (wd.alloc (.cells (waC (⟨y1,y2,y3,y4,y5,y6⟩:Wa)) 92))).grown hg5 (by simp) (fun q e=>by cases e)) (Nat.le_refl _));have W6:=W5;clear BD;have BD:=BN;clear BN;refine hK.o _ _ ⟨S3.o.P.below BD.o,F3.o.below BD.o⟩ (fun hHeld=>?_);clear hK K hg5 EU ho5;refine rdy1 6 (fun K hK=>?_);refine aI EWa (by rfl) (.tmp 46) (.tmp 48) (by rfl) w3.heap.size (.slice A5 ws.length c5) ws (by rfl) W6.o (wd.heap.size+1) (some ⟨wd.heap.size,0,none⟩) 1 1 [(⟨y1,y2,y3,y4,y5,y6⟩:Wa)] (by rfl) (by rfl) RW2.o (by have:=HW.o;have:=HM9.o;simp;omega) BD.o.size ?_;intro v7 w7 ho7 hg7 Al;have BN:=Hd (BD.o.grown hg7 BD.o.size (fun q e=>W6.o.ge q e));obtain ⟨A7,c7,rfl,_⟩:=ho7.at;have HL7:=Hd (show (ws ++ [(⟨y1,y2,y3,y4,y5,y6⟩:Wa)]).length=ws.length+1 by simp);generalize (ws ++ [(⟨y1,y2,y3,y4,y5,y6⟩:Wa)]).length=l7 at *;have W7:=Hd ho7;clear BD;have BD:=BN;clear BN;refine hK.o _ _ ⟨S3.o.P.below BD.o,F3.o.below BD.o⟩ (fun hHeld=>?_);clear hK K hg7 Al ho7;refine tk hHeld 7 ?_ ?_ ?_;rotate_left
      · intro W' hSw;go_simp;try (with_reducible rfl)
      have S7:=Hd (S3.o.grow BD.o);have O7:=Hd (O3.o.below BD.o);refine rdy1 8 (fun K hK=>?_);refine bg (by rfl) 41 (.tmp 8) (.tmp 50) (by rfl) S7.o.R (poA (.slice B1 ys.length d1) (.slice A7 l7 c7)) ?_ ?_ (lX _ _) rfl (jH _ _ _ _ _ _) ?_
      · go_simp
      · go_simp
      have RR:=Hd (Blk.row S7.o.R (poA (.slice B1 ys.length d1) (.slice A7 l7 c7)));have P8:=Hd (S7.o.good O7.o (W7.o.low S3.o.low.size) HY.o (by have:=HW.o;simp;omega) (poA (.slice B1 ys.length d1) (.slice A7 l7 c7)));have HLT:=Hd (show w.heap.size+1+1+1 < w2.heap.size from HGB.o);refine hK.o _ _ ⟨S7.o.P.grown (aJ w7 (w.heap.size+1+1+1) (poA (.slice B1 ys.length d1) (.slice A7 l7 c7))) (fun e=>by injection e with e;omega),(F3.o.below BD.o).grown (aJ w7 (w.heap.size+1+1+1) (poA (.slice B1 ys.length d1) (.slice A7 l7 c7))) (fun e=>by injection e with e;have:=HLT.o;omega)⟩ (fun hHeld=>?_);clear hK K;refine tk hHeld 9 ?_ ?_ ?_;rotate_left
      · intro W' hSw;go_simp;try (with_reducible rfl)
      refine wpAnyH_done (by kernel_rfl) ?_ _;go_simp;go_wp2_with fail;refine bodyPost_ret (nG (fn:=Tryz.f42) rfl _ _ (w.heap.size+1+1+1) (.slice B1 ys.length d1) (.slice A7 l7 c7) rfl RR.o) rfl ?_;exact P8.o
end Go.Proofs.YtollifnnpihfdaaGreatDoor
namespace Go.Proofs.YtollifnnpihfdaaGreatDoor
open Go.RowKit
def RO {α:Type} (F:Fence) (n:Nat) (P:Program) (g:Nat) (lb:Array Value) (enc:α→Value) (G:α→Prop) (lo hi:Nat) (R:World→World→Prop) (S Sp:List α→Prop) (N:Nat) (w:World):Prop:=
 ∀ (l:Nat) (J Jx:List α→World→Prop) (W:World),Below w.heap.size w W→(∀ pre A B,J pre A→Mid lo hi A B→J pre B)→(∀ pre A B,Jx pre A→Mid lo hi A B→Jx pre B)→
  (∀ pre x A,G x→J pre A→pre.length < N→YieldAt F (n - 1) P l #[enc x] A fun e B=>
   (e= .returned (.bool true)∧J (pre ++ [x]) B∧R A B)∨(e= .returned (.bool false)∧Jx (pre ++ [x]) B))→
  J [] W→
  CallsIn F n P g (#[.func (.yield l) #[] #[]] ++ lb) W fun e B=>(∃ v,e= .returned v)∧((∃ xs,S xs∧J xs B)∨(∃ pre,Sp pre∧Jx pre B))
variable {F:Fence} {n:Nat} {P:Program}
end Go.Proofs.YtollifnnpihfdaaGreatDoor
namespace Go.Proofs.YtollifnnpihfdaaGreatDoor
open Go.RowKit
section
variable {F:Fence} {n:Nat} {P:Program} {Q:Exit→Act→World→Prop} {a:Act} {w:World} {b:Frame} {k:List Item} {cs:List Frame}
theorem eZ {c:Code} :step P (lone (b.atR a (.code (.scope c) :: k)) cs w)= .next (lone (b.atR a (.code c :: .inScope c :: k)) cs w):=
 step_lone_go (by simp [stepG,stepG.exec,Frame.atR])
theorem nW {c:Code} :step P (lone (b.atR a (.inScope c :: k)) cs w)= .next (lone (b.atR a k) cs w):=
 step_lone_go (by simp [stepG,stepG.exec,Frame.atR])
theorem lN (id:Nat) (c:Code) (k:List Item):exitTo id (.inScope c :: k)=exitTo id k:=by simp [exitTo]
theorem jQ {c:Code} (h:c.wpIn F n P (Exit.noGoto Q) a w):(Code.scope c).wpIn F n P Q a w:=by
 intro b k cs hro hb hr;have h0:(lone (b.atR a (.code (.scope c) :: k)) cs w).fenced P F:=fenced_calm hb hr rfl;obtain ⟨e,a₁,w₁,hq,harr⟩:=h b (.inScope c :: k) cs hro hb hr;cases e with
 | normal=>exact ⟨.normal,a₁,w₁,hq, .head h0 eZ (StepsIn.trans harr (.one (fenced_calm hb hr rfl) nW))⟩
 | exit id=>exact ⟨.exit id,a₁,w₁,hq, .of_steps (.one h0 eZ) ⟨fun k' hk=>harr.1 k' (by rw [lN];exact hk),fun hr hk=>harr.2 hr (by rw [lN];exact hk)⟩⟩
 | goto l=>exact hq.elim
 | ret=>exact ⟨_,a₁,w₁,hq, .of_steps (.one h0 eZ) harr⟩
 | panic ch=>exact ⟨_,a₁,w₁,hq, .of_steps (.one h0 eZ) harr⟩
 | outgrown=>exact ⟨_,a₁,w₁,hq, .of_steps (.one h0 eZ) harr⟩
end
open Go.RowKit Go.Shelf
attribute [local go_sem] Oper.semAt_some
inductive Chn (f:List Dv) (ms:List Mt):List (Int×Int)→Int→Int→Prop
 | top:onF ms 0=none→dz f 0 1=true→Chn f ms [(0,1)] 0 1
 | over {l:List (Int×Int)} {dev a b:Int} :dz f dev 1=true→dev≠0→onF ms dev=some (a,b)→Chn f ms l a b→Chn f ms ((dev,1) :: l) dev 1
 | step {l:List (Int×Int)} {dev ino:Int} {n:Nd} :aG f dev ino=some n→n.kind=2→ino≠1→Chn f ms l dev n.par→Chn f ms ((dev,ino) :: l) dev ino
theorem uH {f:List Dv} {dev ino:Int} (h:dz f dev ino=true):∃ n,aG f dev ino=some n∧n.kind=2:=by
 unfold dz at h;cases hq:aG f dev ino with
 | none=>rw [hq] at h;cases h
 | some n=>rw [hq] at h;exact ⟨n,rfl,by simpa using h⟩
theorem Chn.head {f:List Dv} {ms:List Mt} {l:List (Int×Int)} {d i:Int} (h:Chn f ms l d i):∃ n,aG f d i=some n∧n.kind=2∧n.ino=i∧∃ r,l=(d,i) :: r:=by
 have k:∀ {n:Nd} {d i:Int},aG f d i=some n→n.ino=i:=fun h=>by
  obtain ⟨_,_,_,h4⟩:=aT h;exact h4
 cases h with
 | top h1 h2=>
  obtain ⟨n,e1,e2⟩:=uH h2;exact ⟨n,e1,e2,k e1,_,rfl⟩
 | over h1 h2 h3 h4=>
  obtain ⟨n,e1,e2⟩:=uH h1;exact ⟨n,e1,e2,k e1,_,rfl⟩
 | step h1 h2 h3 h4=>exact ⟨_,h1,h2,k h1,_,rfl⟩
theorem Chn.E5 {f:List Dv} {ms:List Mt} {l:List (Int×Int)} {d i:Int} (h:Chn f ms l d i) (hi:i≠1):∃ (n:Nd) (r:List (Int×Int)),aG f d i=some n∧Chn f ms r d n.par∧l=(d,i) :: r:=by
 cases h with
 | top h1 h2=>exact absurd rfl hi
 | over h1 h2 h3 h4=>exact absurd rfl hi
 | step h1 h2 h3 h4=>exact ⟨_,_,h1,h4,rfl⟩
theorem Chn.Je {f:List Dv} {ms:List Mt} {l:List (Int×Int)} {d:Int} (h:Chn f ms l d 1):(d=0∧onF ms 0=none∧l= [(0,1)])∨(d≠0∧∃ (a b:Int) (r:List (Int×Int)),onF ms d=some (a,b)∧Chn f ms r a b∧l=(d,1) :: r):=by
 cases h with
 | top h1 h2=>exact .inl ⟨rfl,h1,rfl⟩
 | over h1 h2 h3 h4=>exact .inr ⟨h2,_,_,_,h3,h4,rfl⟩
 | step h1 h2 h3 h4=>exact absurd rfl h3
theorem Ci {ms:List Mt} {dev a b:Int} (h:onF ms dev=some (a,b)):onR ms dev=(a,b,true):=by unfold onR;rw [h]
theorem Cj {ms:List Mt} {dev:Int} (h:onF ms dev=none):onR ms dev=(0,0,false):=by unfold onR;rw [h]
structure lq (base lo:Nat) (A B:World):Prop where
 low:Below base A B
 cells:∀ b,lo≤b→∀ (t:TypeId) (cs:Array Value),t≠9→Blk A b t cs→Blk B b t cs
theorem lq.trans {base lo:Nat} {A B C:World} (h:lq base lo A B) (k:lq base lo B C):lq base lo A C:=⟨h.low.trans k.low,fun b hb t cs ht hq=>k.cells b hb t cs ht (h.cells b hb t cs ht hq)⟩
theorem lq.obj {base lo:Nat} (A:World) (l:Nat) (o o' :Obj) (hl:base≤l) (h:A.heap[l]? =some o) (ho:o.isCells=false):lq base lo A (A.putObj l o'):=
 ⟨j6 A o' hl (Array.getElem?_eq_some_iff.1 h).1,fun b _ t cs _ hq=>by
  have hne:l≠b:=fun e=>by
   subst e;have hq' :A.heap[l]? =some (.cells cs t (0,0)):=hq;rw [h] at hq';injection hq' with hq';rw [hq'] at ho;cases ho
  exact (World.putObj_heap_other hne.symm).trans hq⟩
theorem lq.below {base lo:Nat} {A B:World} (hb:Below A.heap.size A B) (h:base≤A.heap.size):lq base lo A B:=⟨hb.mono h,fun b _ t cs _ hq=>Blk.below hq hb⟩
theorem iy {lo hi:Nat} {A B:World} (hb:Below A.heap.size A B) (h:lo≤A.heap.size):Mid lo hi A B:=⟨hb.mono h,fun b _ hlt=>hb.block b hlt⟩
theorem qY {W:World} {lo hi B i:Nat} (v:Value) (h1:lo≤B) (h2:B < hi):Mid lo hi W (W.setCell ⟨B,i,none⟩ v):=
 ⟨(Below.refl lo W).setCell (p:=⟨B,i,none⟩) h1 v,fun b hb _=>Below.heap_setCell W ⟨B,i,none⟩ v b (by show b≠B;omega)⟩
def uO (ds:List Dm) (k:Nat):Nat:=((ds.take k).map (fun d=>d.xs.length)).sum
theorem Ck (ds:List Dm) (h:∀ d∈ds,d.xs.length≤1000) (k:Nat):uO ds k≤1000 * k:=by
 unfold uO;induction ds generalizing k with
 | nil=>simp
 | cons d ds ih=>
  cases k with
  | zero=>simp
  | succ k=>
   have h1:=ih (fun x hx=>h x (List.mem_cons_of_mem _ hx)) k;have h2:=h d (List.mem_cons_self ..);simp only [List.take_succ_cons,List.map_cons,List.sum_cons];omega
theorem Cm (ds:List Dm):uO ds 0=0:=by unfold uO;simp
theorem Cn (ds:List Dm) {k:Nat} (hk:k < ds.length):uO ds (k+1)=uO ds k+(ds[k]'hk).xs.length:=by
 unfold uO;rw [List.take_add_one,List.getElem?_eq_getElem hk];simp only [Option.toList,List.map_append,List.sum_append,List.map_cons,List.map_nil,List.sum_cons,List.sum_nil,Nat.add_zero]
theorem E8 (ds:List Dm):uO ds ds.length=CK (ds.map Dm.dv):=by
 unfold uO CK;rw [List.take_length,List.map_map];congr 1;apply List.map_congr_left;intro d _;simp [Dm.dv]
theorem Qi {a b:Nat} (h:a+b≤1000000):wrap64 ((a:Int)+(b:Int))=((a+b:Nat):Int)∧IntKind.i64.wrap ((a:Int)+(b:Int))=((a+b:Nat):Int):=
 ⟨(IntWalk.wrap64_in _ (by omega)).trans (Int.natCast_add a b).symm,(IntWalk.i64_in _ (by omega)).trans (Int.natCast_add a b).symm⟩
structure ChS (w wr:World) (base B:Nat) (A:Option Addr) (n c:Nat) (ds:List Dm) (Am:Option Addr) (nm cm:Nat) (ms:List Mt) (d i:Int):Prop where
 V:Blk wr B 31 #[slV A n c,slV Am nm cm]
 U:Blk wr (B+1) 44 #[.int .i64 d, .int .i64 i]
 F:bR wr base A ds
 M:AtE EMt wr base Am ms
 hb:base≤B
section
variable {w wr w' :World} {base B:Nat} {A Am:Option Addr} {n c nm cm:Nat} {ds:List Dm} {ms:List Mt} {d i d' i' :Int}
theorem ChS.lt (h:ChS w wr base B A n c ds Am nm cm ms d i):B+1 < wr.heap.size:=h.U.lt
theorem ChS.grow (h:ChS w wr base B A n c ds Am nm cm ms d i) (hb:Below wr.heap.size wr w'):ChS w w' base B A n c ds Am nm cm ms d i:=by
 have:=h.lt;have:=h.hb;exact ⟨h.V.below hb,h.U.below hb,h.F.keep hb (by omega),h.M.keep hb (by omega),h.hb⟩
theorem ChS.held (h:ChS w wr base B A n c ds Am nm cm ms d i) (hb:lq base B wr w'):ChS w w' base B A n c ds Am nm cm ms d i:=
 ⟨hb.cells _ (Nat.le_refl _) _ _ (by decide) h.V,hb.cells _ (Nat.le_succ _) _ _ (by decide) h.U,h.F.keep hb.low (Nat.le_refl _),h.M.keep hb.low (Nat.le_refl _),h.hb⟩
theorem ChS.files (h:ChS w wr base B A n c ds Am nm cm ms d i):bR wr wr.heap.size A ds:=h.F.more (by have:=h.lt;have:=h.hb;omega)
theorem ChS.bN (h:ChS w wr base B A n c ds Am nm cm ms d i):AtE EMt wr wr.heap.size Am ms:=h.M.more (by have:=h.lt;have:=h.hb;omega)
theorem ChS.ino (h:ChS w wr base B A n c ds Am nm cm ms d i) (k:Int):ChS w (wr.setCell ⟨B+1,1,none⟩ (.int .i64 k)) base B A n c ds Am nm cm ms d k:=by
 have hb:=h.hb;have hl:=(Below.refl base wr).setCell (p:=⟨B+1,1,none⟩) (by show base≤B+1;omega) (.int .i64 k);exact ⟨h.V.af _ (by show B≠B+1;omega),h.U.put 1 _,h.F.keep hl (Nat.le_refl _),h.M.keep hl (Nat.le_refl _),hb⟩
theorem ChS.dev (h:ChS w wr base B A n c ds Am nm cm ms d i) (k:Int):ChS w (wr.setCell ⟨B+1,0,none⟩ (.int .i64 k)) base B A n c ds Am nm cm ms k i:=by
 have hb:=h.hb;have hl:=(Below.refl base wr).setCell (p:=⟨B+1,0,none⟩) (by show base≤B+1;omega) (.int .i64 k);exact ⟨h.V.af _ (by show B≠B+1;omega),h.U.put 0 _,h.F.keep hl (Nat.le_refl _),h.M.keep hl (Nat.le_refl _),hb⟩
end
attribute [local irreducible] uO CK
theorem Co (n' B base:Nat) (hn1:1≤n') (ds:List Dm) (A:Option Addr) (n c:Nat) (hn:n=ds.length) (ms:List Mt) (Am:Option Addr) (nm cm:Nat) (hnm:nm=ms.length) (hl:nm≤1000) (d0 i0:Int) (l0:List (Int×Int)) (hch:Chn (ds.map Dm.dv) ms l0 d0 i0) (hlen:l0.length≤CK (ds.map Dm.dv)) (w:World) (hS:ChS w w base B A n c ds Am nm cm ms d0 i0):
  RO Fence.wide n' Tryz.prog 160 #[.pointer (some ⟨B,0,none⟩), .pointer (some ⟨B+1,0,none⟩)] (fun x:Int×Int=>flV x.1 x.2) (fun _=>True) B (B+2) (lq base B)
   (fun xs=>xs=l0) (fun pre=>∃ rest,pre ++ rest=l0) l0.length w:=by
 intro l J Jx W hW hJ hJx hY h0;have S0:=Hd (hS.grow hW);have HN:=Hd hn;have HNM:=Hd hnm;have HL:=Hd hl;have HCH:=Hd hch;have HLEN:=Hd (show l0.length≤uO ds n by rw [hn,E8];exact hlen);clear hS hn hnm hl hch hlen hW;refine callsIn_of_wp Tryz.func160 rfl trivial ?_ rfl;simp only [Tryz.ntmps160,List.size_toArray,List.length_cons,List.length_nil,Nat.reduceAdd,Nat.reduceSub,Array.replicate_succ,Array.replicate_zero,List.push_toArray,List.append_toArray,List.nil_append,List.cons_append];have v0:=S0.o.V.cell 0;refine jQ ?_
 gi_wp2
 clear v0
 gi_loopw [4,14] (fun s i wr=>∃ k:Nat,k≤n∧s= .int .i64 (uO ds k:Nat)∧i= .int .i64 (k:Int)∧Hid (Below W.heap.size W wr)) (fun _ i _=>n - (intOf i).toNat)
 case atStart=>exact ⟨0,Nat.zero_le _,by rw [Cm];rfl,rfl,Hd (Below.refl _ _)⟩
 case round=>
  obtain ⟨k,hk,rfl,rfl,hbw⟩:=hrel;have lS:=S0.o.F.few;have hn:=HN.o;by_cases hlt:k < n;case pos=>
   have hkl:k < ds.length:=(by omega);have k0:(0:Int)≤(k:Int):=(by omega);have kn:(k:Int) < (n:Int):=(by omega);obtain ⟨ad,rfl,hab,hcx⟩:=(S0.o.grow hbw.o).F.at_ k hkl;obtain ⟨s0,s1⟩:=bO (a:=ad.add (k * 2)) hcx;have HSN:=Hd (Cn ds hkl);have HSL:=Hd (show uO ds k+ds[k].xs.length≤1000000 by
    have h1:=Ck ds (fun d hd=>(S0.o.F.nodes d hd).2) (k+1);rw [HSN.o] at h1;exact Nat.le_trans h1 (by omega))
   clear hcx;generalize ds[k]=x at *;have hk9:k≤1000000:=(by omega);obtain ⟨w1,w2⟩:=Qi HSL.o;obtain ⟨q7,q8⟩:=bW hk9 (Nat.le_refl _);have B1:=Hd (hbw.o.alloc hbw.o.size (.cells #[.int .i64 x.nx, .slice x.A x.xs.length x.c] 142))
   gi_wp2
   clear w1 w2 q7 q8;go_roundw;case rel=>exact ⟨k+1,hlt,by rw [HSN.o,Int.natCast_add],by go_num,B1⟩
   case measure=>exact bq hlt _ rfl
  case neg=>
   obtain rfl:k=n:=(by omega);have kn:¬ (k:Int) < (k:Int):=(by omega);have S1:=Hd (S0.o.grow hbw.o);have HJ1:=hJ [] W wr h0 (iy hbw.o (by have:=S0.o.lt;omega));have HSA:=Hd (show uO ds k≤1000000 from Nat.le_trans (Ck ds (fun d hd=>(S0.o.F.nodes d hd).2) k) (by omega));clear hbw h0 S0 hn lS
   gi_wp2
   refine wpIn_label ?_
   gi_wp2
   generalize hW1:wr=W1 at *;clear hW1
   gi_loopw [25] (fun i wr=>∃ (pre rest:List (Int×Int)) (d e:Int),pre ++ rest=l0∧Hid (Chn (ds.map Dm.dv) ms rest d e)∧i= .int .i64 (pre.length:Nat)∧Hid (ChS w wr base B A k c ds Am nm cm ms d e)∧J pre wr) (fun i _=>l0.length - (intOf i).toNat)
   case atStart=>exact ⟨[],l0,d0,i0,rfl,HCH,rfl,S1,HJ1⟩
   case round=>
    clear HCH S1 HJ1;obtain ⟨pre,rest,d,e,hl0,hch,rfl,S2,hj⟩:=hrel;obtain ⟨nd,hq,hk2,RS,rest',hr⟩:=hch.o.head;have hlt:pre.length < l0.length:=(by rw [← hl0,hr,List.length_append,List.length_cons];omega);have h9:l0.length≤uO ds k:=HLEN.o;have HKT:=Hd (Nat.lt_of_lt_of_le hlt h9);have kn:(pre.length:Int) < (uO ds k:Int):=(by omega);have HNX:=Hd (show pre ++ [(d,e)] ++ rest' =l0 by rw [← hl0,hr,List.append_assoc];rfl);have v0:=S2.o.V.cell 0;have u0:=S2.o.U.cell 0;have u1:=S2.o.U.cell 1;have HLT:=Hd hlt;have HQ:=Hd hq;have HIN:=Hd RS;have HK2:=Hd hk2;clear h9 hlt hq RS hk2
    gi_wp2_with fail
    clear v0 u0 u1;refine ⟨trivial,(callsIn_wide.2 (MH d e ds A k c HN.o _ S2.o.files)).mono ?_⟩;intro en w1 hp;rw [HQ.o] at hp;obtain ⟨A1,c1,rfl,_,hb,_⟩:=hp;have S3:=Hd ((S2.o.grow hb).grow ((Below.refl w1.heap.size w1).alloc (Nat.le_refl _) (.cells (ndC nd (.slice A1 nd.es.length c1)) 145)));have X3:=Hd (Blk.new w1 (ndC nd (.slice A1 nd.es.length c1)) 145);have hj3:J pre (w1.alloc (.cells (ndC nd (.slice A1 nd.es.length c1)) 145)):=hJ pre _ _ hj (iy (hb.alloc hb.size (.cells (ndC nd (.slice A1 nd.es.length c1)) 145)) (by have:=S2.o.lt;omega));have HBN:=Hd (show B+1 < w1.heap.size from Nat.lt_of_lt_of_le S2.o.lt hb.size);obtain ⟨fn,tmps,assign,body,hy,hR⟩:=hY pre (d,e) _ trivial hj3 HLT.o;clear hb hj3 S2 hj;have u0:=S3.o.U.cell 0;have u1:=S3.o.U.cell 1;have x1:=X3.o.cell 1;have x1' :(w1.alloc (.cells (ndC nd (.slice A1 nd.es.length c1)) 145)).cell? ⟨w1.heap.size,1,none⟩=some (.int .i64 2):=(by rw [← HK2.o];exact x1);clear x1
    gi_wp2
    clear u0 u1 x1' hy;generalize hW3:w1.alloc (.cells (ndC nd (.slice A1 nd.es.length c1)) 145)=W3 at *;clear hW3;refine hR.mono ?_;clear hR;rintro en W4 (⟨rfl,hj4,hh4⟩ | ⟨rfl,Qj⟩);case inr=>
     gi_wp2
     rw [Exit.noGoto_ret];refine bodyPost_ret (results_none rfl _ _ _) rfl ?_;exact ⟨⟨_,rfl⟩, .inr ⟨_,⟨rest',HNX.o⟩,Qj⟩⟩
    case inl=>
     have S4:=Hd (S3.o.held hh4);have X4:=Hd (hh4.cells _ (by have:=HBN.o;omega) _ _ (by decide) X3.o);clear hh4 S3 X3;have x0:=X4.o.cell 0;have x5:=X4.o.cell 5;by_cases he1:e=1;case neg=>
      have hb1:=(bT (show nd.ino≠1 by rw [HIN.o];exact he1)).2;obtain ⟨nd',r',hq',hr',hl'⟩:=hch.o.E5 he1;rw [HQ.o] at hq';injection hq' with hq';subst hq';have HN2:=Hd (show pre ++ [(d,e)] ++ r' =l0 by rw [← hl0,hl',List.append_assoc];rfl);have HC2:=Hd hr';have S5:=Hd (S4.o.ino nd.par);have hj5:=hJ _ _ _ hj4 (qY (lo:=B) (hi:=B+2) (i:=1) (.int .i64 nd.par) (show B≤B+1 by omega) (show B+1 < B+2 by omega):Mid B (B+2) W4 (W4.setCell ⟨B+1,1,none⟩ (.int .i64 nd.par)));have g1:=S4.o.U.cell 1;have f1:=S4.o.U.free 1;have HPL:=Hd (show ((pre ++ [(d,e)]).length:Nat)=pre.length+1 by simp);obtain ⟨q7,q8⟩:=bW (show pre.length≤1000000 by have:=HKT.o;have:=HSA.o;omega) (Nat.le_refl _);clear hr' hl' he1 hj4
      gi_wp2
      clear q7 q8 g1 f1 hb1;go_roundw;case rel=>exact ⟨pre ++ [(d,e)],r',d,nd.par,HN2.o,HC2,by rw [HPL.o];rfl,S5,hj5⟩
      case measure=>exact bq HLT.o _ rfl
     case pos=>
      have hb1:=(dY (show nd.ino=1 by rw [HIN.o];exact he1)).2;subst he1;have v0:=S4.o.V.cell 0;have v1:=S4.o.V.cell 1;have u0:=S4.o.U.cell 0
      gi_wp2_with fail
      refine ⟨trivial,(callsIn_wide.2 (Ch d (slV A k c) ms Am nm cm HNM.o HL.o _ S4.o.bN)).mono ?_⟩;rintro en w5 ⟨rfl,hb⟩;have S5:=Hd (S4.o.grow hb);have hj5:=hJ _ _ _ hj4 (iy (lo:=B) (hi:=B+2) hb (by have:=S4.o.lt;omega));clear hb v0 v1 u0 hb1 x0 x5;rcases hch.o.Je with ⟨rfl,hno,hl'⟩ | ⟨hd0,a,b,r',hon,hr',hl'⟩;case inl=>
       have HXS:=Hd (show pre ++ [(0,1)]=l0 by rw [← hl0,hl']);rw [Cj hno];have hj6:=hJ _ _ _ hj5 (iy (lo:=B) (hi:=B+2) ((Below.refl w5.heap.size w5).alloc (Nat.le_refl _) (.cells #[.int .i64 0, .int .i64 0] 44)) (by have:=S5.o.lt;omega));clear hno hl'
       gi_wp2
       rw [Exit.noGoto_ret];refine bodyPost_ret (results_none rfl _ _ _) rfl ?_;exact ⟨⟨_,rfl⟩, .inl ⟨_,HXS.o,hj6⟩⟩
      case inr=>
       have HN2:=Hd (show pre ++ [(d,1)] ++ r' =l0 by rw [← hl0,hl',List.append_assoc];rfl);have HC2:=Hd hr';rw [Ci hon];have b0:=(bT hd0).1;have S6:=Hd (S5.o.grow ((Below.refl w5.heap.size w5).alloc (Nat.le_refl _) (.cells #[.int .i64 a, .int .i64 b] 44)));have hj6:=hJ _ _ _ hj5 (iy (lo:=B) (hi:=B+2) ((Below.refl w5.heap.size w5).alloc (Nat.le_refl _) (.cells #[.int .i64 a, .int .i64 b] 44)) (by have:=S5.o.lt;omega));have X6:=Hd (Blk.new w5 #[.int .i64 a, .int .i64 b] 44);have S8:=Hd ((S6.o.dev a).ino b);have hj8:=hJ _ _ _ (hJ _ _ _ hj6 (qY (lo:=B) (hi:=B+2) (i:=0) (.int .i64 a) (show B≤B+1 by omega) (show B+1 < B+2 by omega))) (qY (lo:=B) (hi:=B+2) (i:=1) (.int .i64 b) (show B≤B+1 by omega) (show B+1 < B+2 by omega));have HPL:=Hd (show ((pre ++ [(d,(1:Int))]).length:Nat)=pre.length+1 by simp);have g0:=S6.o.U.cell 0;have g1:=S6.o.U.cell 1;have f0:=S6.o.U.free 0;have f1:=S6.o.U.free 1;have z0:=X6.o.cell 0;have z1:=X6.o.cell 1;obtain ⟨q7,q8⟩:=bW (show pre.length≤1000000 by have:=HKT.o;have:=HSA.o;omega) (Nat.le_refl _);clear hr' hl' hd0 hon hj4 hj5 hj6
       gi_wp2
       clear q7 q8 g0 g1 f0 f1 z0 z1 b0;go_roundw;case rel=>exact ⟨pre ++ [(d,1)],r',a,b,HN2.o,HC2,by rw [HPL.o];rfl,S8,hj8⟩
       case measure=>exact bq HLT.o _ rfl
end Go.Proofs.YtollifnnpihfdaaGreatDoor
namespace Go.Proofs.YtollifnnpihfdaaGreatDoor
def lu (f:List Dv) (l:List (Int×Int)):List ByteArray:=(l.filter (fun x=>x.2 != 1)).map (fun x=>fT f x.1 x.2)
theorem xG (f:List Dv) (d:Int) (l:List (Int×Int)):lu f ((d,1) :: l)=lu f l:=by
 unfold lu;rw [List.filter_cons_of_neg (by simp)]
theorem uI (f:List Dv) {d i:Int} (h:i≠1) (l:List (Int×Int)):lu f ((d,i) :: l)=fT f d i :: lu f l:=by
 unfold lu;rw [List.filter_cons_of_pos (by simpa using h)];rfl
theorem xH (f:List Dv) (l k:List (Int×Int)):lu f (l ++ k)=lu f l ++ lu f k:=by
 unfold lu;rw [List.filter_append,List.map_append]
theorem mq.chn {f:List Dv} {ms:List Mt} {h:Nat} {dev ino:Int} {L:List ByteArray} (w:mq f ms h dev ino L):
  ∃ l:List (Int×Int),Chn f ms (l ++ [(0,1)]) dev ino∧(l ++ [(0,1)]).length=h∧(∀ x∈l,x≠(0,1))∧L=(lu f l).reverse:=by
 induction w with
 | top h1 h2=>exact ⟨[], .top h1 h2,rfl,(fun x hx=>by cases hx),rfl⟩
 | @over h dev a b L h1 h2 h3 _ ih=>
  obtain ⟨l,k1,k2,k3,k4⟩:=ih;refine ⟨(dev,1) :: l, .over h1 h2 h3 k1,by simp at k2 ⊢;omega,fun x hx=>?_,by rw [xG];exact k4⟩;rcases List.mem_cons.1 hx with rfl | hx
  · intro e;injection e with e _;exact h2 e
  · exact k3 x hx
 | @step h dev ino n L h1 h2 h3 h4 _ ih=>
  obtain ⟨l,k1,k2,k3,k4⟩:=ih;refine ⟨(dev,ino) :: l, .step h1 h2 h3 k1,by simp at k2 ⊢;omega,fun x hx=>?_,by rw [uI f h3,List.reverse_cons, ← k4]⟩;rcases List.mem_cons.1 hx with rfl | hx
  · intro e;injection e with _ e;exact h3 e
  · exact k3 x hx
open Go.RowKit
variable {F:Fence} {n:Nat} {P:Program}
theorem uJ {α:Type} {g:Operand} {ps:Array Tmp} {assign body:Code} {Q:Exit→Act→World→Prop} {a:Act} {w:World}
   (hro:F.round=none) (h1:1≤n) {gf:Nat} {lb:Array Value} (hg:a.eval g= .func (.func gf) #[] lb) (hFg:F.fn gf) (eg:∀ args w,(callFunc gf args).run P w= .ok (.enter gf args) w)
   {enc:α→Value} {G:α→Prop} {S Sp:List α→Prop} {N lo hi:Nat} (hlh:lo≤hi) (hhi:hi≤w.heap.size) (R:World→World→Prop) (hRt:∀ {A B C:World},R A B→R B C→R A C) (hRp:∀ (A:World) (l:Nat) (o o' :Obj),w.heap.size≤l→A.heap[l]? =some o→o.isCells=false→R A (A.putObj l o')) (hseq:RO F (n - 1) P gf lb enc G lo hi R S Sp N w) (hps:ps.size=1)
   (I:List α→World→Prop) (Ix:Code→List α→World→Prop) (hI:∀ pre A B,I pre A→Mid lo hi A B→I pre B) (hIx:∀ c pre A B,Ix c pre A→Mid lo hi A B→Ix c pre B) (hIp:∀ pre A l o o',I pre A→w.heap.size≤l→A.heap[l]? =some o→o.isCells=false→I pre (A.putObj l o')) (ND:∀ c pre A l o o',Ix c pre A→w.heap.size≤l→A.heap[l]? =some o→o.isCells=false→Ix c pre (A.putObj l o')) (h0:I [] w) (Ax:α→Act→World→Prop) (hAx:∀ x a' A l o o',Ax x a' A→A.heap[l]? =some o→o.isCells=false→Ax x a' (A.putObj l o'))
   (hassign:∀ (l:Nat) (pre:List α) (x:α) (W:World) (K:Act→World→Prop),I pre W→hi≤W.heap.size→(∀ a' W',KeepsOthers W W' →R W W' →I pre W' →Ax x a' W' →K a' W')→
     assign.wpIn (F.inRound l) (n - 1 - 1) P (Exit.then K (fun _ _ _=>False)) { tmps:=(ps.zip #[enc x]).foldl (fun t (p,v)=>t.setIfInBounds p v) a.tmps,defers:= [] } W)
   (hbody:∀ (l:Nat) (pre:List α) (x:α) (a' :Act) (W:World),G x→I pre W→Ax x a' W→(∃ r,W.heap[l]? =some (.loop r))→w.heap.size≤l→hi≤W.heap.size→pre.length < N→body.wpIn (F.inRound l) (n - 1 - 1) P (ownPostK R I Ix (pre ++ [x]) W) a' W)
   (hdone:∀ (D:Nat) (xs:List α) (W:World),w.heap.size≤D→S xs→I xs W→W.heap[D]? =some (.deferred (some []))→Q .normal { a with defers:= { target:= .collected D,args:=#[] } :: a.defers } W)
   (hstop:∀ (D:Nat) (c:Code) (pre:List α) (W:World),w.heap.size≤D→Sp pre→Ix c pre W→W.heap[D]? =some (.deferred (some []))→c.wpIn F n P Q { a with defers:= { target:= .collected D,args:=#[] } :: a.defers } W):
   (Code.rangeFunc g ps assign body).wpIn F n P Q a w:=by
 refine wpIn_rangeFunc fun fn hfn=>?_;rw [hro];generalize hk:w.heap.size=k at *;let NF:LoopState→Option Code→Loop:=fun st pe=> { state:=st,pending:=pe,fn,tmps:=a.tmps,params:=ps,assign,body,defers:=k };obtain ⟨r,hr⟩:∃ r,r=NF:=⟨_,rfl⟩;have e1:=World.alloc_heap_new w (.deferred (some []));have e2:=World.alloc_heap_new (w.alloc (.deferred (some []))) (.loop (r .ready none));have e3:=Below.heap_alloc (w.alloc (.deferred (some []))) (.loop (r .ready none)) k (by simp;omega);have hB:Below k w ((w.alloc (.deferred (some []))).alloc (.loop (r .ready none))):=((Below.refl k w).alloc (by omega) _).alloc (by simp;omega) _;have hrun:=run_enterLoop_outer (P:=P) (w:=w) fn a.tmps ps assign body;rw [World.size_alloc,hk] at e2;rw [hk] at e1 hrun;have e4:((w.alloc (.deferred (some []))).alloc (.loop (r .ready none))).heap[k]? =some (.deferred (some [])):=e3.trans e1;have hrun' :(Instr.enterLoop fn a.tmps ps assign body none).run P w= .ok (k+1, [{ target:= .collected k,args:=#[] }]) ((w.alloc (.deferred (some []))).alloc (.loop (r .ready none))):=by rw [hr];exact hrun
 generalize (w.alloc (.deferred (some []))).alloc (.loop (r .ready none))=W1 at *;refine ⟨k+1,_,W1, { target:= .fn (.func gf) lb,args:=#[.func (.yield (k+1)) #[] #[]] },W1,gf,#[.func (.yield (k+1)) #[] #[]] ++ lb,W1,hrun',?_,?_,?_,fun _=>h1,?_⟩
 · simp only [resolve,hg];simp [go_sem]
 · intro f' hf';simp [Target.leads] at hf';subst hf';exact hFg
 · simp [invoke,go_sem,eg]
 refine (hseq (k+1) (fun pre W=>I pre W∧W.heap[k+1]? =some (.loop (r .ready none))∧W.heap[k]? =some (.deferred (some [])))
   (fun pre W=>∃ c,Ix c pre W∧W.heap[k+1]? =some (.loop (r .done (some c)))∧W.heap[k]? =some (.deferred (some []))) W1 (by rw [hk];exact hB) ?_ ?_ ?_ ⟨hI [] w W1 h0 ⟨hB.mono (by omega),fun b _ hb=>hB.block b (by omega)⟩,e2,e4⟩).mono ?_
 · rintro pre A B ⟨a1,a2,a3⟩ hm;exact ⟨hI pre A B a1 hm,(hm.high (k+1) (by omega) (Array.getElem?_eq_some_iff.1 a2).1).trans a2,(hm.high k (by omega) (Array.getElem?_eq_some_iff.1 a3).1).trans a3⟩
 · rintro pre A B ⟨c,a1,a2,a3⟩ hm;exact ⟨c,hIx c pre A B a1 hm,(hm.high (k+1) (by omega) (Array.getElem?_eq_some_iff.1 a2).1).trans a2,(hm.high k (by omega) (Array.getElem?_eq_some_iff.1 a3).1).trans a3⟩
 · rintro pre x A hGx ⟨a1,a2,a3⟩ hlen;have hlt:k+1 < A.heap.size:=(Array.getElem?_eq_some_iff.1 a2).1;have hy:=run_yield (P:=P) (args:=#[enc x]) a2 (by rw [hr];simp [NF,hps]);have hy' :(Instr.yield (k+1) #[enc x]).run P A= .ok (.round (k+1) fn ((ps.zip #[enc x]).foldl (fun t (p,v)=>t.setIfInBounds p v) a.tmps) assign body) A:=by
     rw [hy,hr]
   refine ⟨fn,_,assign,body,hy',roundIn_of_wpIn hfn (hassign (k+1) pre x A _ a1 (by omega) ?_)⟩;clear hy hy';intro a' Aa hka hra hia hax;replace a2:=hka.same _ _ a2 rfl;replace a3:=hka.same _ _ a3 rfl;replace hlt:k+1 < Aa.heap.size:=(Array.getElem?_eq_some_iff.1 a2).1;have hb:=run_beginRound (P:=P) a2 (by rw [hr]);have p1:(Aa.putObj (k+1) (.loop { r .ready none with state:= .busy })).heap[k+1]? =some (.loop { r .ready none with state:= .busy }):=World.putObj_heap_same hlt;have p2:(Aa.putObj (k+1) (.loop { r .ready none with state:= .busy })).heap[k]? =some (.deferred (some [])):=(World.putObj_heap_other (by omega)).trans a3;have p3:I pre (Aa.putObj (k+1) (.loop { r .ready none with state:= .busy })):=hIp pre Aa _ _ _ hia (by omega) a2 rfl;have p4:R A (Aa.putObj (k+1) (.loop { r .ready none with state:= .busy })):=hRt hra (hRp Aa _ _ _ (by omega) a2 rfl);have p6:Ax x a' (Aa.putObj (k+1) (.loop { r .ready none with state:= .busy })):=hAx x a' Aa _ _ _ hax a2 rfl;have p5:hi≤(Aa.putObj (k+1) (.loop { r .ready none with state:= .busy })).heap.size:=by
     have:=(Array.getElem?_eq_some_iff.1 p1).1;omega
   have q1:({ r .ready none with state:= .busy } :Loop)=r .busy none:=(by rw [hr]);rw [q1] at hb p1 p2 p3 p4 p5 p6;generalize Aa.putObj (k+1) (.loop (r .busy none))=A1 at *;have q2:∀ (jump:Option Code),({ r .busy none with state:=(if jump.isNone then .ready else .done),pending:=jump } :Loop)=r (if jump.isNone then .ready else .done) jump:=fun jump=>by rw [hr]
   have fin:∀ (jump:Option Code) (C:World),KeepsOthers A1 C→(Instr.endRound (k+1) jump).run P C= .ok (.bool jump.isNone) (C.putObj (k+1) (.loop (r (if jump.isNone then .ready else .done) jump)))∧k+1 < C.heap.size∧
      (C.putObj (k+1) (.loop (r (if jump.isNone then .ready else .done) jump))).heap[k+1]? =some (.loop (r (if jump.isNone then .ready else .done) jump))∧
      (C.putObj (k+1) (.loop (r (if jump.isNone then .ready else .done) jump))).heap[k]? =some (.deferred (some []))∧R C (C.putObj (k+1) (.loop (r (if jump.isNone then .ready else .done) jump)))∧C.heap[k+1]? =some (.loop (r .busy none)):=fun jump C hC=>by
     have c1:=hC.same _ _ p1 rfl;have c2:=hC.same _ _ p2 rfl;have c3:=(Array.getElem?_eq_some_iff.1 c1).1;have c4:=run_endRound (P:=P) jump c1;refine ⟨?_,c3,World.putObj_heap_same c3,(World.putObj_heap_other (by omega)).trans c2,hRp C _ _ _ (by omega) c1 rfl,c1⟩;rw [← q2 jump];exact c4
   refine ⟨A1,hb,?_⟩;refine wpIn_mono (hbody (k+1) pre x a' A1 hGx p3 p6 ⟨_,p1⟩ (by omega) p5 hlen) ?_;rintro e a3' C hp;cases e with
   | normal=>
     obtain ⟨b1,b2,b3⟩:=hp;obtain ⟨f1,f2,f3,f4,f5,f6⟩:=fin none C b1;exact ⟨_,_,f1, .inl ⟨rfl,⟨hIp _ C _ _ _ b3 (by omega) f6 rfl,f3,f4⟩,hRt (hRt p4 b2) f5⟩⟩
   | ret=>
     obtain ⟨b1,b3⟩:=hp;obtain ⟨f1,f2,f3,f4,f5,f6⟩:=fin (some .ret) C b1;exact ⟨_,_,f1, .inr ⟨rfl, .ret,ND _ _ C _ _ _ b3 (by omega) f6 rfl,f3,f4⟩⟩
   | exit id=>
     obtain ⟨b1,b3⟩:=hp;obtain ⟨f1,f2,f3,f4,f5,f6⟩:=fin (some (.exit id)) C b1;exact ⟨_,_,f1, .inr ⟨rfl, .exit id,ND _ _ C _ _ _ b3 (by omega) f6 rfl,f3,f4⟩⟩
   | goto t=>
     obtain ⟨b1,b3⟩:=hp;obtain ⟨f1,f2,f3,f4,f5,f6⟩:=fin (some (.goto t)) C b1;exact ⟨_,_,f1, .inr ⟨rfl, .goto t,ND _ _ C _ _ _ b3 (by omega) f6 rfl,f3,f4⟩⟩
   | panic ch=>exact hp.elim
   | outgrown=>exact hp.elim
 · rintro e B ⟨⟨v,rfl⟩,(⟨xs,s1,s2,s3,s4⟩ | ⟨pre,s1,c,s2,s3,s4⟩)⟩
   · have hlt:=(Array.getElem?_eq_some_iff.1 s3).1;have hend:=run_endLoop (P:=P) s3 (by rw [hr];simp [NF]);exact ⟨none,_,by rw [hend,hr],hdone k xs _ (Nat.le_refl _) s1 (hIp _ B _ _ _ s2 (by omega) s3 rfl) ((World.putObj_heap_other (by omega)).trans s4)⟩
   · have hlt:=(Array.getElem?_eq_some_iff.1 s3).1;have hend:=run_endLoop (P:=P) s3 (by rw [hr];simp [NF]);exact ⟨some c,_,by rw [hend,hr],hstop k c pre _ (Nat.le_refl _) s1 (ND _ _ B _ _ _ s2 (by omega) s3 rfl) ((World.putObj_heap_other (by omega)).trans s4)⟩
end Go.Proofs.YtollifnnpihfdaaGreatDoor
namespace Go.Proofs.YtollifnnpihfdaaGreatDoor
open Go.RowKit Go.Shelf
attribute [local go_sem] Oper.semAt_some
def KpB (D:Nat) (g:Option Nat) (A B:World):Prop:=∀ b o,(b=D∨some b=g)→A.heap[b]? =some o→o.isCells=true→B.heap[b]? =some o
theorem KpB.trans {D:Nat} {g:Option Nat} {A B C:World} (h:KpB D g A B) (k:KpB D g B C):KpB D g A C:=fun b o hb ho hc=>k b o hb (h b o hb ho hc) hc
theorem KpB.obj {D:Nat} {g:Option Nat} (W:World) (l:Nat) (o o' :Obj) (h:W.heap[l]? =some o) (ho:o.isCells=false):KpB D g W (W.putObj l o'):=fun b q _ hq hc=>by
 have hne:l≠b:=fun e=>by
  subst e;rw [h] at hq;injection hq with hq;rw [hq] at ho;rw [ho] at hc;cases hc
 exact (World.putObj_heap_other hne.symm).trans hq
theorem KpB.blk {D:Nat} {g:Option Nat} {A B:World} {t:TypeId} {cs:Array Value} (h:KpB D g A B) (k:Blk A D t cs):Blk B D t cs:=h D _ (.inl rfl) k rfl
theorem KpB.strs {D:Nat} {A0:Option Addr} {A B:World} {m m' :Nat} {L:List ByteArray} (h:KpB D (A0.map Addr.block) A B) (k:cz A m A0 L) (hm:m≤m'):cz B m' A0 L:=fun j hj=>by
 obtain ⟨ad,e,hl,hc⟩:=k j hj;refine ⟨ad,e,by omega,?_⟩;have hb:(ad.add j).block=ad.block:=oz ad j;have hk:=h ad.block;obtain ⟨o,ho,hoc⟩:=cells_of_cell hc;rw [hb] at ho;have:=hk o (.inr (by rw [e];rfl)) ho hoc;rw [← hc];exact World.cell?_of_block (by rw [hb,this,ho])
theorem MK (A:Option Addr) (n c:Nat) (w:World):Calls Tryz.prog 98 #[.slice A n c] w fun e w' =>e= .returned (.func (.func 161) #[] #[.pointer (some ⟨w.heap.size,0,none⟩)])∧w' =w.alloc (.cells #[.slice A n c] 49):=by
 go_in
 go_wp2
 go_ret;exact ⟨rfl,rfl⟩
theorem E9 {L:List ByteArray} {k:Nat} (hk:k < L.length):(L.drop k).reverse=(L.drop (k+1)).reverse ++ [L[k]]:=by
 rw [List.drop_eq_getElem_cons hk,List.reverse_cons]
abbrev BkS:Type:= { x:Int×ByteArray // x.2.size≤12 }
def bkT (xs:List BkS):List ByteArray:=xs.map (fun x=>x.1.2)
theorem Cq (xs ys:List BkS):bkT (xs ++ ys)=bkT xs ++ bkT ys:=List.map_append
theorem Cr (xs:List BkS):∀ s∈bkT xs,s.size≤12:=fun s hs=>by
 obtain ⟨x,_,rfl⟩:=List.mem_map.1 hs;exact x.2
theorem Fa (n' D:Nat) (hn1:1≤n') (A:Option Addr) (n c:Nat) (L:List ByteArray) (hn:n=L.length) (hl:n≤1000000) (hsm:∀ s∈L,s.size≤12) (m:Nat) (w:World) (hD:Blk w D 49 #[.slice A n c]) (hm:m≤w.heap.size) (hA:cz w m A L):
  SeqStopsK Fence.wide n' Tryz.prog 161 #[.pointer (some ⟨D,0,none⟩)] (fun x:BkS=>#[.int .i64 x.1.1, .string x.1.2]) (KpB D (A.map Addr.block))
   (fun xs=>bkT xs=L.reverse) (fun _=>True) n w:=by
 intro l J Jx W hW hJ hJx hY h0;have D0:=Hd (hD.below hW);have A0:=Hd (hA.keep hW (by omega));have HN:=Hd hn;have HL:=Hd hl;have HSM:=Hd hsm;clear hD hA hn hl hm hW hsm;refine callsIn_of_wp Tryz.func161 rfl trivial ?_ rfl;simp only [Tryz.ntmps161,List.size_toArray,List.length_cons,List.length_nil,Nat.reduceAdd,Nat.reduceSub,Array.replicate_succ,Array.replicate_zero,List.push_toArray,List.append_toArray,List.nil_append,List.cons_append];have v0:=D0.o.cell 0;have q0:wrap64 ((n:Int) - 1)=(n:Int) - 1:=IntWalk.wrap64_in _ (by have:=HL.o;omega);have q1:IntKind.i64.wrap ((n:Int) - 1)=(n:Int) - 1:=IntWalk.i64_in _ (by have:=HL.o;omega)
 gi_wp2
 clear v0 q0 q1
 gi_loopw [3] (fun i wr=>∃ (k:Nat) (pre:List BkS),k≤n∧pre.length+k=n∧i= .int .i64 ((k:Int) - 1)∧bkT pre=(L.drop k).reverse∧Hid (Blk wr D 49 #[.slice A n c])∧Hid (cz wr m A L)∧J pre wr) (fun i _=>(intOf i+1).toNat)
 case atStart=>exact ⟨n, [],Nat.le_refl _,by simp,rfl,by rw [HN.o];simp [bkT],D0,A0,h0⟩
 case round=>
  obtain ⟨k,pre,hk,hp,rfl,hpm,hD,hA,hj⟩:=hrel;cases k with
  | zero=>
   have kn:¬ (0:Int)≤((0:Nat):Int) - 1:=by omega
   gi_wp2
   refine bodyPost_end (results_none rfl _ _ _) rfl ?_;exact ⟨⟨_,rfl⟩, .inl ⟨pre,by rw [hpm];rfl,hj⟩⟩
  | succ k=>
   rw [show ((k+1:Nat):Int) - 1=(k:Int) by omega];have kn:(0:Int)≤(k:Int):=(by omega);have hkn:k < n:=(by omega);have hkl:k < L.length:=(by rw [← HN.o];exact hkn);have knn:(k:Int) < (n:Int):=(by omega);have v0:=hD.o.cell 0;obtain ⟨ad,rfl,hab,hcx⟩:=hA.o k hkl;have ML:L[k].size≤12:=HSM.o _ (List.getElem_mem hkl);obtain ⟨fn,tmps,assign,body,hy,hR⟩:=hY pre ⟨((k:Int),L[k]),ML⟩ wr hj (by omega);have HDR:=Hd (E9 hkl);have HPM:=Hd hpm;have q0:wrap64 ((k:Int) - 1)=(k:Int) - 1:=IntWalk.wrap64_in _ (by have:=HL.o;omega);have q1:IntKind.i64.wrap ((k:Int) - 1)=(k:Int) - 1:=IntWalk.i64_in _ (by have:=HL.o;omega);generalize hx:L[k]=x at *
   gi_wp2_with fail
   clear v0 hcx hy;refine hR.mono ?_;clear hR;rintro en W4 (⟨rfl,hj4,hh4⟩ | ⟨rfl,Qj⟩);case inr=>
    gi_wp2
    refine bodyPost_ret (results_none rfl _ _ _) rfl ?_;exact ⟨⟨_,rfl⟩, .inr ⟨_,trivial,Qj⟩⟩
   case inl=>
    have D4:=Hd (hh4.blk hD.o);have A4:=Hd (hh4.strs hA.o (Nat.le_refl _))
    gi_wp2
    go_roundw;case rel=>exact ⟨k,pre ++ [⟨((k:Int),x),ML⟩],by omega,by rw [List.length_append];simp;omega,rfl,by rw [Cq,HPM.o,HDR.o];rfl,D4,A4,hj4⟩
    case measure=>show ((k:Int) - 1+1).toNat < ((k:Int)+1).toNat;omega
end Go.Proofs.YtollifnnpihfdaaGreatDoor
namespace Go.Proofs.YtollifnnpihfdaaGreatDoor
open Go.RowKit
theorem qZ {l n:Nat} {P:Program} {ops:Array Oper} {Q:Exit→Act→World→Prop} (hlo:¬ LetsOut Q) (hd:∀ (i:Nat) (o:Oper) c,ops[i]? =some o→o.op≠ .defer c):
  ∀ (L:List Nat) (a:Act) (w:World),wpOps P ops Q L a w→wpOpsIn (Fence.wide.inRound l) n P ops Q L a w:=by
 intro L;induction L with
 | nil=>exact fun a w h=>h
 | cons i rest ih=>
  intro a w h;simp only [wpOps] at h;simp only [wpOpsIn];cases ho:ops[i]? with
  | none=>rw [ho] at h;exact ih a w h
  | some o=>
   rw [ho] at h;by_cases hw:Region.wanted o (yielded ops a.tmps)=true
   · simp only [hw,if_true] at h ⊢;rcases h with h | ⟨_,h⟩
     · refine ⟨fun _ _=>trivial,?_⟩;rw [Oper.semAt_eq _ _ _ (fun c=>hd i o c ho)];unfold Oper.wp at h;revert h;generalize (execOp a.eval o).run P w=r;intro h;unfold Oper.upon at h;unfold Oper.uponIn;split at h
       · exact ih _ _ h
       · exact ih _ _ h
       · exact ih _ _ h
       · refine ⟨fun h=>by simp [Fence.wide] at h,?_⟩;refine CallsIn.inRound l (callsIn_wide.2 (h.mono ?_));intro e w' hr;cases e with
         | returned v=>exact ih _ _ hr
         | panicked ch=>exact hr
         | outgrown=>exact hr
       · refine ⟨fun h=>by simp [Fence.wide] at h,?_⟩;intro c cs _;obtain ⟨v,w',hr,hs⟩:=h c cs;exact ⟨v,w',ih _ _ hr,stepsIn_wide.2 hs⟩
       · exact h
       · exact h.elim
     · exact absurd h hlo
   · simp only [hw,if_false,Bool.false_eq_true] at h ⊢;exact ⟨fun _ _=>trivial,ih _ _ h⟩
def xI (o:Oper):Bool:=match o.op with | .defer _=>false | _=>true
theorem kG {l n:Nat} {P:Program} {id:Nat} {ops:Array Oper} {Q:Exit→Act→World→Prop} {a:Act} {w:World} (S:World→Prop) (hlo:¬ LetsOut Q) (hd:ops.toList.all xI=true) (hm:P.follows .mixedOrders=true) (hS:S w.drew)
  (h:S w.drew→wpAnyH P .any ops Q S ops.size (Array.replicate ops.size false) a w.drew):(Code.region id ops true).wpIn (Fence.wide.inRound l) n P Q a w:=
 wpIn_region_draw fun t=>by
  simp only [Region.schedule,hm,Bool.true_or,if_true];refine qZ hlo (fun i o c ho e=>?_) _ _ _ (wpAny_sound ops.size t _ a _ (wpAny_of_held _ _ _ _ (h hS)));have h1:=List.all_eq_true.1 hd o (by rw [Array.getElem?_eq_some_iff] at ho;obtain ⟨h1,rfl⟩:=ho;exact Array.mem_toList_iff.2 (Array.getElem_mem h1));unfold xI at h1;rw [e] at h1;cases h1
end Go.Proofs.YtollifnnpihfdaaGreatDoor
