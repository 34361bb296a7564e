import Derived.Test.YtollifnnpihfdaaGreatDoorG22
import Derived.Test.YtollifnnpihfdaaGreatDoorG23
import Derived.Test.YtollifnnpihfdaaGreatDoorG24
set_option maxRecDepth 100000
set_option maxHeartbeats 64000000
set_option linter.all false
namespace Go.Proofs.YtollifnnpihfdaaGreatDoor
open Go.RowKit
structure Ob (w wr:World) (gc:Nat) (b:Int) (r:Rul) (tv:Value):Prop where
 low:Below w.heap.size w wr
 src:aB wr w.heap.size w.heap.size b
 cb:dF wr gc r tv
 own:fH wr (w.heap.size+1) tv r.ts
 ne:tv.ownBlock≠some gc
 siz:Jp r
 num:∀ t∈r.ts,I64 t.nu
 hg:w.heap.size < gc
section
variable {w wr w' :World} {gc:Nat} {b b' :Int} {r r' :Rul} {tv:Value}
end
theorem Fz {r:Rul} (h:MkR r) (hl:r.ts.length≤3):Jp r∧∀ t∈r.ts,I64 t.nu:=
 ⟨⟨h.ca,by have:=h.pa;omega,by have:=h.ke;omega,fun t ht=>by have:=(h.ts t ht).2;unfold maxLen;omega,by omega⟩,fun t ht=>by have:=(h.ts t ht).1;unfold I64;omega⟩
structure Gd1 (w wr:World) (base g:Nat) (b:Int):Prop where
 only:w.grownBy wr (some g)
 src:aB wr base g b
 rb:dF wr w.heap.size nM noT
def wH (w:World) (base g:Nat) (b:Int) (e:Ending) (w' :World):Prop:=
 ∃ (r:Rul) (T:Option Addr) (n c:Nat),e= .returned (oF r (.slice T n c))∧n=r.ts.length∧n≤3∧MkR r∧bH r=0∧fH w' (w.heap.size+1) (.slice T n c) r.ts∧aB w' base g b∧w.grownBy w' (some g)
def DF:Rul:=⟨3,1,Dn, [],0,⟨#[]⟩,0,⟨#[]⟩⟩
theorem GU:bH DF=0:=by decide+kernel
theorem GV:MkR DF:=⟨by decide,by decide,by decide,fun t ht=>(by cases ht)⟩
section
variable {w wr w' :World} {base g:Nat} {b b' :Int} {r:Rul} {T:Option Addr} {n c:Nat}
theorem Gd1.step (h:Gd1 w wr base g b) (hl:g < w.heap.size) (hs:aB w' base g b') (hg:wr.grownBy w' (some g)):Gd1 w w' base g b' :=
 ⟨h.only.trans hg,hs,h.rb.grown hg (fun e=>by injection e with e;omega)⟩
theorem Gd1.alloc (h:Gd1 w wr base g b) (o:Obj):Gd1 w (wr.alloc o) base g b:=⟨av h.only o,h.src.alloc o,Blk.alloc h.rb o⟩
theorem Gd1.below (h:Gd1 w wr base g b) (hl:g < w.heap.size) (hb:Below wr.heap.size wr w'):Gd1 w w' base g b:=
 ⟨h.only.trans ⟨hb.os,hb.tape,hb.output,hb.size,fun i hi _=>hb.block i hi⟩,h.src.below hb,Blk.below h.rb hb⟩
theorem Gd1.more (h:Gd1 w wr base g b) (hb:b≤b'):Gd1 w wr base g b' :=⟨h.only,h.src.more hb,h.rb⟩
theorem Gd1.o (h:Gd1 w wr base g b) (hl:g < w.heap.size) (hbs:base≤w.heap.size) (hn:n=r.ts.length) (h3:n≤3) (hm:MkR r) (hc:bH r=0) (ho:fH wr (w.heap.size+1) (.slice T n c) r.ts):
  dF (wr.setRow w.heap.size (bK r (.slice T n c))) w.heap.size r (.slice T n c)∧wH w base g b (.returned (oF r (.slice T n c))) (wr.setRow w.heap.size (bK r (.slice T n c))):=
 ⟨Blk.row h.rb _,r,T,n,c,rfl,hn,h3,hm,hc,ho.row (by omega) _,h.src.keep (setRow_other _ _ _ _ (by omega)) (fun i hi=>setRow_other _ _ _ _ (by omega)),
  ⟨h.only.os,h.only.tape,h.only.output,by rw [setRow_size];exact h.only.size,fun i hi hne=>(setRow_other _ _ _ _ (by omega)).trans (h.only.block i hi hne)⟩⟩
end
theorem gX {w:World} {lo:Nat} {T:Option Addr} {tn tc:Nat} {ts:List Tst} (h:fH w lo (.slice T tn tc) ts):aY w w.heap.size T ts:=by
 obtain ⟨A,c,e,ht⟩:=h.tests;injection e with e1;rw [e1];exact ht
attribute [local irreducible] bH
theorem wI (w:World) (base g:Nat) (b:Int) (h:aB w base g b) (hb:b≤1000000000):
  Calls Tryz.prog 43 #[.pointer (some ⟨g,0,none⟩)] w (wH w base g (b+1600)):=by
 have HB:=Hd hb;have rz:g < w.heap.size:=aW h;have hbase:base≤w.heap.size:=by have:=h.1;omega
 have ST0:=Hd (show Gd1 w (w.alloc (.cells (bK nM noT) 90)) base g b from ⟨av (World.grownBy.refl w (some g)) _,h.alloc _,Blk.new w _ _⟩);clear h hb;go_in;go_wp2_with fail;go_loopw [3] (fun i wr=>∃ k:Nat,k≤8∧i= .int .i64 (k:Int)∧Gd1 w wr base g (b+200 * k)) (fun i _=>8 - (intOf i).toNat);case atStart=>exact ⟨0,by omega,rfl,ST0.o.more (by omega)⟩
 case round=>
  obtain ⟨k,hk,rfl,hst⟩:=hrel;have ST1:=Hd hst;clear hst ST0;by_cases hk8:k < 8
  · have hk1:(k:Int) < 8:=(by omega);go_wp2_with fail;refine (DD _ base g (b+200 * k) ST1.o.src (by have:=HB.o;omega)).mono ?_;rintro e w1 ⟨r,T,n,c,rfl,hn,h3,hm,hown,hs,hg⟩;have HLW:=Hd (show w.heap.size+1≤wr.heap.size+1 by have:=ST1.o.only.size;omega);have ST2:=Hd ((ST1.o.step rz hs hg).alloc (.cells (bK r (.slice T n c)) 90));have HX2:=Hd (Blk.new w1 (bK r (.slice T n c)) 90);have HO2:=Hd ((hown.low HLW.o).alloc (.cells (bK r (.slice T n c)) 90));have HN:=Hd hn;have H3:=Hd h3;have HM:=Hd hm;have HC:=Hd (fun W (ht:aY W W.heap.size T r.ts)=>vB r T c n HN.o (Fz HM.o (by have:=HN.o;have:=H3.o;omega)).1 W ht);clear hn h3 hm hown hs hg ST1;go_wp2_with ((with_reducible refine aP ?_ 90 (.tmp 4) ?_ HX2.o ?_ _ Tryz.underlying90 ?_ ?_ ?_);(iterate 4 rfl);exact iN _ _);refine (HC.o _ (gX HO2.o)).mono ?_;rintro e w2 ⟨rfl,hb2⟩;have ST3:=Hd (ST2.o.below rz hb2);have HX3:=Hd (Blk.below HX2.o hb2);have HO3:=Hd (HO2.o.below hb2);clear hb2 ST2 HX2 HO2;by_cases he:bH r=0
    · have t1:(bH r == 0)=true:=(by rw [he];rfl);have HE:=Hd he;clear he;go_wp2_with (first | ((with_reducible refine aP ?_ 90 (.tmp 4) ?_ HX3.o ?_ _ Tryz.underlying90 ?_ ?_ ?_);(iterate 4 rfl);exact iN _ _) | ((with_reducible refine ae ?_ 90 (.tmp 2) (.tmp 14) ?_ ST3.o.rb (bK r (.slice T n c)) ?_ ?_ ?_ ?_ ?_ ?_);(iterate 4 rfl);(exact iN _ _);rfl;(exact pV _ _ _ _)));refine bodyPost_ret (qa (fn:=Tryz.f43) rfl _ _ w.heap.size r (.slice T n c) rfl (Blk.row ST3.o.rb _)) rfl ?_;exact ((ST3.o.more (b' :=b+1600) (by omega)).o rz hbase HN.o H3.o HM.o HE.o HO3.o).2
    · have t1:(bH r == 0)=false:=(by simpa using he);clear he;go_wp2_with fail;go_roundw;case rel=>exact ⟨k+1,by omega,by go_num,ST3.o.more (by omega)⟩
      case measure=>simp [intOf];omega
  · go_wp2_with ((with_reducible refine ae ?_ 90 (.tmp 2) (.tmp 15) ?_ ST1.o.rb (bK DF noT) ?_ ?_ ?_ ?_ ?_ ?_);(iterate 4 rfl);(exact iN _ _);rfl;(exact pV _ _ _ _));refine bodyPost_ret (qa (fn:=Tryz.f43) rfl _ _ w.heap.size DF noT rfl (Blk.row ST1.o.rb _)) rfl ?_;exact ((ST1.o.more (b' :=b+1600) (by omega)).o rz hbase rfl (by show 0≤3;omega) GV GU (fH.nil _ _)).2
end Go.Proofs.YtollifnnpihfdaaGreatDoor
namespace Go.Proofs.YtollifnnpihfdaaGreatDoor
open Go.RowKit
def ETs:El Tst where
 C t:=(rA t).toList
 e:=85
 sl:=86
 sz:=5
 bs:=48
 len _:=rfl
 one t u hu:=by
  have:=zq t;rw [← Array.all_toList,List.all_eq_true] at this;exact this u hu
 pos:=by omega
 small:=by omega
 hu:=Tryz.underlying86
 info:=by
  obtain ⟨i0,h1,h2,h3,h4⟩:=info_parts Tryz.JV;exact ⟨i0,_,h1,h2,h3,h4,rfl⟩
theorem Oc {w:World} {B:Nat} {A:Option Addr} {ts:List Tst} :aY w B A ts↔AtE ETs w B A ts:=by
 have e:∀ (t:Tst) (j:Nat),(ETs.C t)[j]? =(rA t)[j]? :=fun t j=>by
   show (rA t).toList[j]? =_;rw [Array.getElem?_toList]
 constructor
 · intro h k hk;obtain ⟨ad,h1,h2,h3⟩:=h k hk;exact ⟨ad,h1,h2,fun j hj=>(h3 j hj).trans (e _ _).symm⟩
 · intro h k hk;obtain ⟨ad,h1,h2,h3⟩:=h k hk;exact ⟨ad,h1,h2,fun j hj=>(h3 j hj).trans (e _ _)⟩
theorem sP {w:World} {b:Nat} {v:Value} {ts:List Tst} (h:fH w b v ts):ax ETs w b v ts:=h
theorem zL {w:World} {b:Nat} {v:Value} {ts:List Tst} (h:ax ETs w b v ts):fH w b v ts:=h
structure Ru where
 r:Rul
 A:Option Addr
 c:Nat
abbrev Ru.sl (x:Ru):Value:= .slice x.A x.r.ts.length x.c
theorem Tryz.J8:(Tryz.prog.info? 90).map (fun i=>(i.zero,i.size,i.bytes))=some (some (.agg (bK nM noT)),8,96):=by kernel_rfl
def ERu:El Ru where
 C x:= [.int .i64 x.r.li, .int .i64 x.r.ac, .int .u64 (x.r.ca:Int), .slice x.A x.r.ts.length x.c, .int .i64 x.r.wa, .string x.r.pa, .int .i64 x.r.pe, .string x.r.ke]
 e:=90
 sl:=38
 sz:=8
 bs:=96
 len _:=rfl
 one x u hu:=by simp at hu;rcases hu with rfl | rfl | rfl | rfl | rfl | rfl | rfl | rfl <;> rfl
 pos:=by omega
 small:=by omega
 hu:=Tryz.underlying38
 info:=by
  obtain ⟨i0,h1,h2,h3,h4⟩:=info_parts Tryz.J8;exact ⟨i0,_,h1,h2,h3,h4,rfl⟩
theorem ma {w:World} {a:Addr} {x:Ru} (h:∀ j,j < 8→w.cell? (a.add j)=(ERu.C x)[j]?):
  w.cell? a=some (.int .i64 x.r.li)∧w.cell? ⟨a.block,a.off+1,none⟩=some (.int .i64 x.r.ac)∧w.cell? ⟨a.block,a.off+2,none⟩=some (.int .u64 (x.r.ca:Int))∧w.cell? ⟨a.block,a.off+3,none⟩=some (.slice x.A x.r.ts.length x.c)∧w.cell? ⟨a.block,a.off+4,none⟩=some (.int .i64 x.r.wa)∧w.cell? ⟨a.block,a.off+5,none⟩=some (.string x.r.pa)∧w.cell? ⟨a.block,a.off+6,none⟩=some (.int .i64 x.r.pe)∧w.cell? ⟨a.block,a.off+7,none⟩=some (.string x.r.ke):=
 ⟨h 0 (by omega),h 1 (by omega),h 2 (by omega),h 3 (by omega),h 4 (by omega),h 5 (by omega),h 6 (by omega),h 7 (by omega)⟩
def GdR (r:Rul):Prop:=MkR r∧r.ts.length≤3
theorem GdR.siz {r:Rul} (h:GdR r):Jp r:=(Fz h.1 h.2).1
structure jr (w:World) (B:Nat) (A:Option Addr) (xs:List Ru):Prop where
 at_:AtE ERu w B A xs
 few:xs.length≤1000
 ts:∀ x∈xs,aY w B x.A x.r.ts∧GdR x.r
section
variable {w w' :World} {B B' base:Nat} {A:Option Addr} {v v' :Value} {xs:List Ru}
theorem jr.keep (h:jr w B A xs) (hb:Below B' w w') (hB:B≤B'):jr w' B A xs:=⟨h.at_.keep hb hB,h.few,fun x hx=>⟨(h.ts x hx).1.keep hb hB,(h.ts x hx).2⟩⟩
theorem jr.more (h:jr w B A xs) (hB:B≤B'):jr w B' A xs:=⟨h.at_.more hB,h.few,fun x hx=>⟨(h.ts x hx).1.more hB,(h.ts x hx).2⟩⟩
theorem jr.below (h:jr w w.heap.size A xs) (hb:Below w.heap.size w w'):jr w' w'.heap.size A xs:=(h.keep hb (Nat.le_refl _)).more hb.size
theorem jr.take (h:jr w B A xs) (k:Nat):jr w B A (xs.take k):=
 ⟨fun j hj=>by
  have hj' :j < xs.length:=by rw [List.length_take] at hj;omega
  rw [List.getElem_take];exact h.at_ j hj',by rw [List.length_take];have:=h.few;omega,fun x hx=>h.ts x (List.mem_of_mem_take hx)⟩
structure bX (w:World) (base:Nat) (v:Value) (xs:List Ru):Prop where
 own:ax ERu w base v xs
 few:xs.length≤1000
 ts:∀ x∈xs,fH w base x.sl x.r.ts∧GdR x.r
theorem bX.at (h:bX w base v xs):∃ A c,v= .slice A xs.length c∧jr w w.heap.size A xs:=by
 obtain ⟨A,c,e,hat⟩:=h.own.at;exact ⟨A,c,e,hat,h.few,fun x hx=>⟨gX (h.ts x hx).1,(h.ts x hx).2⟩⟩
theorem bX.at' {A:Option Addr} {n c:Nat} (h:bX w base (.slice A n c) xs):jr w w.heap.size A xs:=by
 obtain ⟨A',c',e,hat⟩:=h.at;injection e with e;rw [e];exact hat
theorem bX.nil (w:World) (base:Nat):bX w base (.slice none 0 0) []:=⟨ax.nil _ _,Nat.zero_le _,fun _ h=>by cases h⟩
theorem bX.below (h:bX w base v xs) (hb:Below w.heap.size w w'):bX w' base v xs:=⟨h.own.below hb,h.few,fun x hx=>⟨(h.ts x hx).1.below hb,(h.ts x hx).2⟩⟩
theorem bX.low {b:Nat} (h:bX w base v xs) (hb:b≤base):bX w b v xs:=⟨h.own.low hb,h.few,fun x hx=>⟨(h.ts x hx).1.low hb,(h.ts x hx).2⟩⟩
theorem bX.far (h:bX w base v xs) {row:Option Nat} (hg:w.grownBy w' row) (hne:∀ k,row=some k→v.ownBlock≠some k∧∀ x∈xs,x.sl.ownBlock≠some k):bX w' base v xs:=
 ⟨h.own.far hg (fun k e r=>(hne k r).1 e),h.few,fun x hx=>⟨zL ((sP (h.ts x hx).1).far hg (fun k e r=>(hne k r).2 x hx e)),(h.ts x hx).2⟩⟩
theorem bX.old (h:bX w base v xs) {g:Nat} (hg:g < base):v.ownBlock≠some g∧∀ x∈xs,x.sl.ownBlock≠some g:=
 ⟨fun e=>by have:=h.own.ge g e;omega,fun x hx e=>by have:=(h.ts x hx).1.ge g e;omega⟩
theorem bX.only (h:bX w base v xs) {g:Nat} (hg:w.grownBy w' (some g)) (hl:g < base):bX w' base v xs:=
 h.far hg (fun k e=>by injection e with e;subst e;exact h.old hl)
theorem bX.alloc (h:bX w base v xs) (o:Obj):bX (w.alloc o) base v xs:=h.below ((Below.refl _ _).alloc (Nat.le_refl _) o)
theorem bX.apps {ys:List Ru} (h:bX w base v xs) (hy:∀ x∈ys,fH w base x.sl x.r.ts∧GdR x.r) (ho:ax ERu w' base v' (xs ++ ys)) (hg:w.grownBy w' v.ownBlock) (hn:(xs ++ ys).length≤1000):bX w' base v' (xs ++ ys):=by
 have k:∀ {x:Ru},fH w base x.sl x.r.ts→fH w' base x.sl x.r.ts:=fun {x} hx=>zL ((sP hx).far hg (fun k e r=>aH (sP hx) h.own (show (85:Nat)≠90 by decide) k e r));refine ⟨ho,hn,fun x hx=>?_⟩;rcases List.mem_append.1 hx with hx | hx
 · exact ⟨k (h.ts x hx).1,(h.ts x hx).2⟩
 · exact ⟨k (hy x hx).1,(hy x hx).2⟩
end
def nk (R:List Dv→Prop) (w:World) (e:Ending) (w' :World):Prop:=
 Below w.heap.size w w' ∧((∃ k:Int,k≠0∧e= .returned (.tuple #[.agg #[.slice none 0 0], .int .i64 k]))∨
  (∃ (A:Option Addr) (n c:Nat) (ds:List Dm),n=ds.length∧e= .returned (.tuple #[fsV A n c, .int .i64 0])∧aC w' w.heap.size (.slice A n c) ds∧R (ds.map Dm.dv)))
theorem OpF.Rj {w wr:World} {A:Option Addr} {n c r:Nat} {ds:List Dm} {dev ino:Int} (h:OpF w wr A n c ds dev ino r) (R:List Dv→Prop) {k:Int} (hk:k≠0):nk R w (.returned (.tuple #[.agg #[.slice none 0 0], .int .i64 k])) (wr.setRow r #[.slice none 0 0]):=
 ⟨ak h.low (by have:=h.hr;omega) _, .inl ⟨k,hk,rfl⟩⟩
theorem qF {w:World} {g b o:Nat} {us:List Value} {t:TypeId} {cs:Array Value} (h:Blk w b t cs) (hne:b≠g):Blk (je w g o us) b t cs:=h.grown (gF us o (World.grownBy.refl w (some g))) (fun e=>hne (by injection e with e;exact e.symm))
theorem AX {w:World} {g o:Nat} {us:List Value} {p:Addr} {v:Value} (h:w.cell? p=some v) (hp:p.block < w.heap.size) (hne:p.block≠g):(je w g o us).cell? p=some v:=
 (World.cell?_of_block ((gF us o (World.grownBy.refl w (some g))).block p.block hp (fun e=>hne (by injection e)))).trans h
theorem Pk (dev ino mode uid gid:Int) (ds:List Dm) (A:Option Addr) (n c:Nat) (hn:n=ds.length) (hok:FOk (ds.map Dm.dv)) (w:World) (h:bR w w.heap.size A ds):
  Calls Tryz.prog 167 #[fsV A n c,flV dev ino, .int .i64 mode, .int .i64 uid, .int .i64 gid] w (nk (fun f' =>QV (ds.map Dm.dv) dev ino mode uid gid f') w):=by
 have HN:=Hd hn;have HOK:=Hd hok;have S0:=Hd (Ov w A n c ds hn dev ino h);clear h hn hok;go_in;go_wp2_with fail;generalize ((w.alloc (.cells #[.slice A n c] 28)).alloc (.cells #[.int .i64 dev, .int .i64 ino] 44)).alloc (.cells #[.slice none 0 0] 28)=w0 at *;refine (fG dev ino ds A n c HN.o w0 S0.o.files).mono ?_;intro e w2 hp;cases hq:aG (ds.map Dm.dv) dev ino with
 | none=>
  rw [hq] at hp;obtain ⟨rfl,hb⟩:=hp;have S2:=Hd ((S0.o.grow hb).alloc (.cells ndZ 145));clear hb hq;go_wp2_with ((with_reducible refine ae ?_ 28 (.tmp 10) (.tmp 23) ?_ S2.o.R #[.slice none 0 0] ?_ ?_ ?_ ?_ ?_ ?_);(iterate 4 rfl);(exact bS _);rfl;(exact bu _ _ _));refine bodyPost_ret (qE (fn:=Tryz.f167) rfl _ _ _ (.slice none 0 0) rfl (Blk.row S2.o.R _)) rfl ?_;exact S2.o.Rj _ (by decide)
 | some nd=>
  rw [hq] at hp;obtain ⟨A2,c2,rfl,ho,hb,hsz⟩:=hp;obtain ⟨ki,hki⟩:=il hq;obtain ⟨j,hj,hkj,hdj,hxx⟩:=fM hki;clear hxx;subst hdj;have HKI:=Hd hki;have HQ:=Hd hq;have HSZ:=Hd hsz;clear hki hq hsz;have S2:=Hd ((S0.o.grow hb).alloc (.cells (ndC nd (.slice A2 nd.es.length c2)) 145));have D2:=Hd (Blk.new w2 (ndC nd (.slice A2 nd.es.length c2)) 145);have HO2:=Hd (ho.alloc (.cells (ndC nd (.slice A2 nd.es.length c2)) 145));have HW2:=Hd (show ∀ q,(Value.slice A2 nd.es.length c2).ownBlock=some q→q < w2.heap.size from fun q e=>ho.lt q e);have HR0:=Hd (show w.heap.size+1+1 < w0.heap.size from S0.o.R.lt);have Tn:=Hd (show w.heap.size+1+1 < w2.heap.size from Nat.lt_of_lt_of_le S0.o.R.lt hb.size);have HW0:=Hd (show w0.heap.size≤w2.heap.size from hb.size);clear ho hb S0;go_upto_region 4 with fail;generalize w2.alloc (.cells (ndC nd (.slice A2 nd.es.length c2)) 145)=w3 at *;obtain ⟨d0,d1,d2,d3,d4,d5,d6,d7⟩:=lI D2.o;have f2:=D2.o.free 2;have f3:=D2.o.free 3;have f4:=D2.o.free 4;have hr2:=S2.o.R.lt;have hrw:w.heap.size+1+1 < w2.heap.size:=Tn.o;let w4:=((w3.setCell ⟨w2.heap.size,2,none⟩ (.int .i64 mode)).setCell ⟨w2.heap.size,3,none⟩ (.int .i64 uid)).setCell ⟨w2.heap.size,4,none⟩ (.int .i64 gid);have hb4:Below w2.heap.size w3 w4:=(((Below.refl w2.heap.size w3).setCell (p:=⟨w2.heap.size,2,none⟩) (Nat.le_refl _) _).setCell (p:=⟨w2.heap.size,3,none⟩) (Nat.le_refl _) _).setCell (p:=⟨w2.heap.size,4,none⟩) (Nat.le_refl _) _;have S4:=Hd (S2.o.keep hb4 hrw);have D4:=Hd (show Blk w4 w2.heap.size 145 (ndC (nQ mode uid gid nd) (.slice A2 nd.es.length c2)) from ((D2.o.put 2 (.int .i64 mode)).put 3 (.int .i64 uid)).put 4 (.int .i64 gid));have HO4:=Hd (show ax EEn w4 w0.heap.size (.slice A2 nd.es.length c2) nd.es from ((HO2.o.bD (g:=w2.heap.size) (i:=2) (fun e=>by have:=HW2.o _ e;omega) _).bD (g:=w2.heap.size) (i:=3) (fun e=>by have:=HW2.o _ e;omega) _).bD (g:=w2.heap.size) (i:=4) (fun e=>by have:=HW2.o _ e;omega) _);clear hb4 hr2;go_upto_region 5 with fail;clear d0 d1 d2 d3 d4 d5 d6 d7 f2 f3 f4 D2 S2 HO2;obtain ⟨w5,hw5⟩:∃ w5,w5=w4:=⟨_,rfl⟩;have Rk:((w3.setCell ⟨w2.heap.size,2,none⟩ (.int .i64 mode)).setCell ⟨w2.heap.size,3,none⟩ (.int .i64 uid)).setCell ⟨w2.heap.size,4,none⟩ (.int .i64 gid)=w5:=hw5.symm;rw [Rk];rw [← hw5] at S4 D4 HO4;clear Rk hw5 w4;obtain ⟨d0,d1,d2,d3,d4,d5,d6,d7⟩:=lI D4.o;go_wp2_with fail;clear d0 d1 d2 d3 d4 d5 d6 d7;refine (zQ (nQ mode uid gid nd) (.slice A2 nd.es.length c2) (by have:=HSZ.o.2.1;unfold maxLen;show nd.tg.size≤_;omega) w5).mono ?_;rintro e w6 ⟨rfl,hb⟩;have S6:=Hd (S4.o.grow hb);have D6:=Hd (D4.o.below hb);have HO6:=Hd (HO4.o.below hb);clear hb S4 D4 HO4;cases hpl:oU (nQ mode uid gid nd) with
  | false=>
   clear hpl;go_wp2_with ((with_reducible refine ae ?_ 28 (.tmp 10) (.tmp 33) ?_ S6.o.R #[.slice none 0 0] ?_ ?_ ?_ ?_ ?_ ?_);(iterate 4 rfl);(exact bS _);rfl;(exact bu _ _ _));refine bodyPost_ret (qE (fn:=Tryz.f167) rfl _ _ _ (.slice none 0 0) rfl (Blk.row S6.o.R _)) rfl ?_;exact S6.o.Rj _ (by decide)
  | true=>
   clear hpl;have v0:=S6.o.V.cell 0;have u0:=S6.o.U.cell 0;have u1:=S6.o.U.cell 1;go_wp2_with fail;clear v0 u0 u1;refine (lG ds A n c HN.o w6 S6.o.files).mono ?_;rintro e w8 ⟨v8,es,rfl,ho8,he8,hb⟩;obtain ⟨A8,c8,rfl,_⟩:=ho8.at;have HE:=Hd he8;have HEL:es.length=ds.length:=(by have:=congrArg List.length he8;simpa using this);have HLN:=Hd HEL;have hje:j < es.length:=(by rw [HEL];exact hj);have HKE:=Hd (show iA (es.map Dm.dv) (j:Int) ino=some ki by rw [HE.o];exact HKI.o);have hke:ki < es[j].xs.length:=by
     have h1:=HKE.o;unfold iA at h1;rw [eG (by omega) (by rw [Int.toNat_natCast];exact hje)] at h1;have h2:kI (es[j].xs.map (·.nd)) ino=some ki:=h1;have h3:=(mY h2).1;simpa using h3
   have HND:=Hd (show es[j].xs[ki].nd=nd from by
     obtain ⟨j5,hj5,hk5,e5,e6⟩:=fM (ds:=es) HKE.o;have e7:j=j5:=(by omega);subst e7;rw [HE.o,HQ.o] at e6;injection e6 with e6;exact e6.symm)
   obtain ⟨g8,KM,Nk,Q4,KN⟩:=iD ho8.own (by omega);subst KM;clear KN HEL;have HB6:=Hd (show w6.heap.size≤w8.heap.size from hb.size);have S7:=Hd (S6.o.grow hb);have D7:=Hd (D6.o.below hb);have HO7:=Hd (HO6.o.below hb);have HR6:=Hd (show w.heap.size+1+1 < w6.heap.size from S6.o.R.lt);have HD6:=Hd (show w2.heap.size < w6.heap.size from D6.o.lt);have HQ6:=Hd (show ∀ q,(Value.slice A2 nd.es.length c2).ownBlock=some q→q < w6.heap.size from fun q e=>HO6.o.lt q e);clear hb he8 S6 D6 HO6;have S9:=Hd (S7.o.alloc (.cells #[(.slice (some ⟨g8,0,none⟩) es.length c8)] 28));have D9:=Hd (D7.o.alloc (.cells #[(.slice (some ⟨g8,0,none⟩) es.length c8)] 28));have O9:=Hd (Blk.new w8 #[(.slice (some ⟨g8,0,none⟩) es.length c8)] 28);have HO9:=Hd (HO7.o.below ((Below.refl w8.heap.size w8).alloc (Nat.le_refl _) (.cells #[(.slice (some ⟨g8,0,none⟩) es.length c8)] 28)));have HF9:=Hd (ho8.below ((Below.refl w8.heap.size w8).alloc (Nat.le_refl _) (.cells #[(.slice (some ⟨g8,0,none⟩) es.length c8)] 28)));clear ho8 S7 D7 HO7;go_upto_region 8 with fail;generalize w8.alloc (.cells #[(.slice (some ⟨g8,0,none⟩) es.length c8)] 28)=w9 at *;have j2:(0:Int)≤(j:Int):=(by omega);have j3:(j:Int) < (es.length:Int):=(by omega);have k2:(0:Int)≤(ki:Int):=(by omega);have k3:(ki:Int) < (es[j].xs.length:Int):=(by omega);obtain ⟨ad8,e0,KQ,FN⟩:=bB HF9.o.own j hje;injection e0 with e0;subst e0;obtain ⟨s00,s1⟩:=bO (a:=(⟨g8,0,none⟩:Addr).add (j * 2)) FN;rw [bV] at s1;replace s1:w9.cell? ⟨g8,j * 2+1,none⟩=some (.slice es[j].A es[j].xs.length es[j].c):=s1;clear s00 FN KQ;obtain ⟨gn,Eh,hgn1,hgn2,OU⟩:=iD (HF9.o.nodes _ (List.getElem_mem hje)).1 (by omega);clear OU;have HGN:=Hd Eh;rw [Eh] at s1;have hgg:g8≠gn:=fun e=>aH HF9.o.own (HF9.o.nodes _ (List.getElem_mem hje)).1 (show (142:Nat)≠145 by decide) g8 rfl (by show (Value.slice es[j].A _ _).ownBlock=_;rw [Eh,e];rfl);clear Eh;obtain ⟨m,hm⟩:∃ m,m=es[j].xs.length:=⟨_,rfl⟩;have HM:=Hd hm;obtain ⟨cj,hcj⟩:∃ cj,cj=es[j].c:=⟨_,rfl⟩;rw [← hm, ← hcj] at s1;rw [← hm] at k3;clear hm hcj;have hr6:=HR6.o;have hd6:=HD6.o;have hb6:=HB6.o;have Vh:w8.heap.size < w9.heap.size:=O9.o.lt;have HAT:=Hd HF9.o.mi.1;have HRI:=Hd (show ∀ W:World,Below w9.heap.size w9 W→Calls Tryz.prog 117 #[fsV (some ⟨g8,0,none⟩) es.length c8,flV (j:Int) ino] W fun e w' =>e= .returned (.int .i64 (ki:Int))∧Below W.heap.size W w' from fun W hW=>by
     have:=mF (j:Int) ino es (some ⟨g8,0,none⟩) es.length c8 rfl W (HAT.o.below hW);rw [HKE.o] at this;exact this)
   have OV:g8 < w9.heap.size:=HF9.o.own.lt g8 rfl;refine wp_region_held_drew (S:=(fun W=>Blk W w8.heap.size 28 #[(.slice (some ⟨g8,0,none⟩) es.length c8)]∧Blk W (w.heap.size+1) 44 #[.int .i64 (j:Int), .int .i64 ino]∧Blk W w2.heap.size 145 (ndC (nQ mode uid gid nd) (.slice A2 nd.es.length c2))∧W.cell? ⟨g8,j * 2+1,none⟩=some (.slice (some ⟨gn,0,none⟩) m cj))) (by kernel_rfl) ⟨O9.o,S9.o.U,D9.o,s1⟩ (fun hHeld=>?_);refine tk hHeld 0 ?_ ?_ (tk hHeld 1 ?_ ?_ (tk hHeld 2 ?_ ?_ (tk hHeld 3 ?_ ?_ (tk hHeld 4 ?_ ?_ (tk hHeld 5 ?_ ?_ (tk hHeld 6 ?_ ?_ (tk hHeld 7 ?_ ?_ (tk hHeld 8 ?_ ?_ ?_))))))));iterate 9
     rotate_left
     · intro W hSw;obtain ⟨z0,z1,z2,z3⟩:=hSw;have o0:=z0.cell 0;have u0:=z1.cell 0;have u1:=z1.cell 1;go_simp;try (with_reducible rfl)
   refine tk hHeld 10 ?_ ?_ ?_;rotate_left
   · intro W hSw;obtain ⟨z0,z1,z2,z3⟩:=hSw;obtain ⟨y0,y1,y2,y3,y4,y5,y6,y7⟩:=lI z2;go_simp;try (with_reducible rfl)
   refine rdy1 9 (fun K hK=>?_);go_simp;go_at_call 117;refine (HRI.o _ (Below.refl w9.heap.size w9).drew).mono ?_;rintro e wz ⟨rfl,hbz⟩;have hbz:Below w9.heap.size w9 wz:=aa (Below.refl w9.heap.size w9).drew hbz;have hh:Blk wz w8.heap.size 28 #[(.slice (some ⟨g8,0,none⟩) es.length c8)]∧Blk wz (w.heap.size+1) 44 #[.int .i64 (j:Int), .int .i64 ino]∧Blk wz w2.heap.size 145 (ndC (nQ mode uid gid nd) (.slice A2 nd.es.length c2))∧wz.cell? ⟨g8,j * 2+1,none⟩=some (.slice (some ⟨gn,0,none⟩) m cj):=⟨O9.o.below hbz,S9.o.U.below hbz,D9.o.below hbz,(hbz.cell (p:=⟨g8,j * 2+1,none⟩) OV).trans s1⟩;have HFZ:=Hd (HF9.o.below hbz);have HOZ:=Hd (HO9.o.below hbz);have SZ:=Hd (S9.o.grow hbz);have hwz:w9.heap.size≤wz.heap.size:=hbz.size;clear hbz;go_simp;refine hK.o _ _ hh (fun hHeld=>?_);clear hK K;refine tk hHeld 11 ?_ ?_ ?_;rotate_left
   · intro W hSw;go_simp;try (with_reducible rfl)
   have hnz:=bB (HFZ.o.nodes _ (List.getElem_mem hje)).1 ki hke;obtain ⟨bd,hbd,hbb,hcy⟩:=hnz;rw [HGN.o] at hbd;injection hbd with hbd;subst hbd;obtain ⟨n0,n1,n2,n3,n4,n5,n6,n7⟩:=dE (a:=(⟨gn,0,none⟩:Addr).add (ki * 8)) hcy;rw [bV] at n0 n1 n2 n3 n4 n5 n6 n7;have hfr:∀ i,wz.frozen? ⟨gn,i,none⟩=false:=fun i=>by
     have h9:ax ENd wz w6.heap.size (.slice es[j].A es[j].xs.length es[j].c) es[j].xs:=(HFZ.o.nodes _ (List.getElem_mem hje)).1;rw [HGN.o] at h9;exact h9.free i
   have g0:=hfr (ki * 8);have g1:=hfr (ki * 8+1);have g2:=hfr (ki * 8+2);have g3:=hfr (ki * 8+3);have g4:=hfr (ki * 8+4);have g5:=hfr (ki * 8+5);have g6:=hfr (ki * 8+6);have g7:=hfr (ki * 8+7);clear hcy hfr hbb;have HFS:=Hd ((HFZ.o.low (b:=w0.heap.size) (by have:=HW0.o;omega)).Pb hje hke HGN.o (x' :=(⟨nQ mode uid gid nd,A2,c2⟩:Nm)) (by show jU (nQ mode uid gid nd);exact HSZ.o) HOZ.o);have hh2:(fun W:World=>Blk W w8.heap.size 28 #[(.slice (some ⟨g8,0,none⟩) es.length c8)]∧Blk W (w.heap.size+1) 44 #[.int .i64 (j:Int), .int .i64 ino]∧Blk W w2.heap.size 145 (ndC (nQ mode uid gid nd) (.slice A2 nd.es.length c2))∧W.cell? ⟨g8,j * 2+1,none⟩=some (.slice (some ⟨gn,0,none⟩) m cj)) (je wz gn (ki * 8) (ENd.C (⟨nQ mode uid gid nd,A2,c2⟩:Nm))):=⟨qF hh.1 (fun e=>ay (HFZ.o.nodes _ (List.getElem_mem hje)).1 hh.1 (by decide) (by show (Value.slice es[j].A _ _).ownBlock=_;rw [HGN.o,e];rfl)),qF hh.2.1 (by omega),qF hh.2.2.1 (by omega),AX hh.2.2.2 (by show g8 < wz.heap.size;omega) hgg⟩;have SY:=Hd (show OpF w (je wz gn (ki * 8) (ENd.C (⟨nQ mode uid gid nd,A2,c2⟩:Nm))) A n c ds (j:Int) ino (w.heap.size+1+1) from SZ.o.keep (B:=w6.heap.size) ((Below.refl w6.heap.size wz).grown (gF _ _ (World.grownBy.refl wz (some gn))) (by omega) (fun q e=>by injection e with e;omega)) hr6);refine rdy1 12 (fun K hK=>?_);go_simp;refine hK.o _ _ hh2 (fun hHeld=>?_);clear hK K;clear n0 n1 n2 n3 n4 n5 n6 n7 g0 g1 g2 g3 g4 g5 g6 g7;refine wpAnyH_done (by kernel_rfl) ?_ _;have OY:=Hd hh2.1;clear hh hh2;obtain ⟨wy,hwy⟩:∃ wy,wy=je wz gn (ki * 8) (ENd.C (⟨nQ mode uid gid nd,A2,c2⟩:Nm)):=⟨_,rfl⟩;have hwn:((((((((wz.setCell ⟨gn,ki * 8,none⟩ (.int .i64 (nQ mode uid gid nd).ino)).setCell ⟨gn,ki * 8+1,none⟩ (.int .i64 (nQ mode uid gid nd).kind)).setCell ⟨gn,ki * 8+2,none⟩ (.int .i64 (nQ mode uid gid nd).mode)).setCell ⟨gn,ki * 8+3,none⟩ (.int .i64 (nQ mode uid gid nd).uid)).setCell ⟨gn,ki * 8+4,none⟩ (.int .i64 (nQ mode uid gid nd).gid)).setCell ⟨gn,ki * 8+5,none⟩ (.int .i64 (nQ mode uid gid nd).par)).setCell ⟨gn,ki * 8+6,none⟩ (.string (nQ mode uid gid nd).tg)).setCell ⟨gn,ki * 8+7,none⟩ (.slice A2 nd.es.length c2))=wy:=hwy.symm;rw [hwn];rw [← hwy] at OY SY HFS;clear hwn hwy;have o0:=OY.o.cell 0;go_wp2_with ((with_reducible refine ae ?_ 28 (.tmp 10) (.tmp 48) ?_ SY.o.R #[(.slice (some ⟨g8,0,none⟩) es.length c8)] ?_ ?_ ?_ ?_ ?_ ?_);(iterate 4 rfl);(exact bS _);rfl;(exact bu _ _ _));refine bodyPost_ret (qE (fn:=Tryz.f167) rfl _ _ (w.heap.size+1+1) (.slice (some ⟨g8,0,none⟩) es.length c8) rfl (Blk.row SY.o.R _)) rfl ?_;have hof:=HFS.o.far (aJ wy (w.heap.size+1+1) #[(.slice (some ⟨g8,0,none⟩) es.length c8)]) (fun q e=>by injection e with e;subst e;exact HFS.o.old (by have:=HR0.o;omega));exact ⟨ak SY.o.low (by omega) _, .inr ⟨_,_,_,_,hof.mi.2,rfl,hof.low (by have:=HR0.o;omega),ki,HKI.o,by rw [vF es j ki hje hke (⟨nQ mode uid gid nd,A2,c2⟩:Nm) (nQ mode uid gid) (by rw [HND.o]),HE.o];rfl⟩⟩
theorem qM {P:Program} {w:World} {a:Addr} {ty:TypeId} {cs:Array Value} {d:TypeDesc} (h:∀ j v,cs.toList[j]? =some v→w.cell? (a.add j)=some v)
  (hu:P.underlying ty=some d) (hd:(match d with | .struct _ | .array _ _=>true | _=>false)=true) (hi:(P.info? ty).map (·.size)=some cs.size):
  (loadVar ty a).run P w= .ok (.agg cs) w:=by
 have hl:(loadCells a cs.toList.length).run P w= .ok cs.toList.toArray w:=run_loadCells_list (P:=P) w a cs.toList h;cases hq:P.info? ty with
 | none=>simp [hq] at hi
 | some i=>
  have hs:i.size=cs.size:=by simpa [hq] using hi
  have hagg:(isAgg ty).run P w= .ok true w:=by
   unfold isAgg;rw [Sem.run_bind,run_underlying hu w];cases d <;> simp_all
  simp only [Array.length_toList,Array.toArray_toList] at hl;simp [loadVar,Sem.run_bind,hagg,sizeOf,typeInfo,hq,hs,hl]
theorem qN {w:World} {g:Nat} {fd op nu:Int} {tx:ByteArray} {ot:Int} (h:dW w g fd op nu tx ot):(loadVar 85 ⟨g,0,none⟩).run Tryz.prog w= .ok (.agg (bP fd op nu tx ot)) w:=run_loadVar_row w g _ _ _ _ _ h Tryz.underlying85 rfl (uP _ _ _ _ _)
theorem vJ {w:World} {a:Addr} {i:Itm} {r:aD} (h:∀ j,j < 13→w.cell? (a.add j)=(az i r)[j]?):(loadVar 73 a).run Tryz.prog w= .ok (.agg (az i r)) w:=
 qM (fun j v hv=>by
  have hj:j < 13:=by
   rcases Nat.lt_or_ge j 13 with hj | hj
   · exact hj
   · rw [List.getElem?_eq_none (by show 13≤j;exact hj)] at hv;cases hv
  rw [h j hj];simpa using hv) Tryz.underlying73 rfl (fo _ _)
theorem Iq (x y:Int):(Tryz.prog.info? 44).map (·.size)=some (#[Value.int .i64 x, .int .i64 y]:Array Value).size:=by show _=some 2;kernel_rfl
theorem vK {w:World} {b o:Nat} {x y:Int} (h5:w.cell? ⟨b,o,none⟩=some (.int .i64 x)) (h6:w.cell? ⟨b,o+1,none⟩=some (.int .i64 y)):(loadVar 44 ⟨b,o,none⟩).run Tryz.prog w= .ok (.agg #[.int .i64 x, .int .i64 y]) w:=
 qM (fun j v hv=>by
  match j with
  | 0=>simp at hv;subst hv;exact h5
  | 1=>simp at hv;subst hv;exact h6
  | j+2=>simp at hv) Tryz.underlying44 rfl (Iq _ _)
theorem Ty (a:Addr) (w:World):(loadVar 52 a).run Tryz.prog w=(load a).run Tryz.prog w:=by
 unfold loadVar;simp [go_sem]
theorem Ps {wr x:World} {g g2:Nat} {fd op nu:Int} {tx:ByteArray} {ot:Int} {c:Ctx} {r:aN} {it:Value} {p:Addr} {i:Itm} {ir:aD} (hT:dW wr g fd op nu tx ot) (hC:aR wr g2 c r it) (hcl:∀ j,j < 13→wr.cell? (p.add j)=(az i ir)[j]?) (hp:p.block < wr.heap.size) (hb:Below wr.heap.size wr x):
  Below wr.heap.size wr x∧(loadVar 85 ⟨g,0,none⟩).run Tryz.prog x= .ok (.agg (bP fd op nu tx ot)) x∧(loadVar 54 ⟨g2,0,none⟩).run Tryz.prog x= .ok (.agg (aV c r it)) x∧(loadVar 73 p).run Tryz.prog x= .ok (.agg (az i ir)) x∧(loadVar 44 ⟨p.block,p.off+5,none⟩).run Tryz.prog x= .ok (.agg #[.int .i64 i.dev, .int .i64 i.ino]) x∧x.cell? ⟨g2,23,none⟩=some it:=by
 have hcx:∀ j,j < 13→x.cell? (p.add j)=(az i ir)[j]? :=fun j hj=>(hb.cell (by rw [add_block];exact hp)).trans (hcl j hj);exact ⟨hb,qN (hT.below hb),gH (hC.below hb),vJ hcx,vK (hcx 5 (by omega)) (hcx 6 (by omega)),(show aR x g2 c r it from hC.below hb).items⟩
theorem tY (w:World):Below w.heap.size w w.drew:=(Below.refl _ _).drew
attribute [local irreducible] aV bI dA ai vY bU dw iC fV
attribute [-go_sem] loadVar
attribute [local go_sem] EA EB Ty
theorem Le (c:Ctx) (r:aN) (A:Option Addr) (n cp:Nat) (L:List (Itm×aD)) (hn:n=L.length) (hlen:n≤1000000) (fd op nu:Int) (tx:ByteArray) (ot:Int) (hx:tx.size≤maxLen) (w:World) (hL:aU w w.heap.size A L):
  Calls Tryz.prog 173 #[nL fd op nu tx ot,rq c r (.slice A n cp)] w fun e w' =>e= .returned (.bool (iC c (L.map (·.1)) fd op nu tx ot))∧Below w.heap.size w w' :=by
 obtain ⟨hT,hC,hB,hS⟩:=JG w fd op nu tx ot c r (.slice A n cp);have HK:=Hd (fun W=>Ip fd op nu tx ot hx W);have HLN:=Hd hn;have HE1:=Hd (show (bU fd op nu tx ot=false∨fV c fd=false∨(ot≠0∧fV c ot=false))→iC c (L.map (·.1)) fd op nu tx ot=false from fun h=>by unfold iC;rw [if_pos h]);have HE2:=Hd (show ¬ (bU fd op nu tx ot=false∨fV c fd=false∨(ot≠0∧fV c ot=false))→(dA fd=false∧dA ot=false)→iC c (L.map (·.1)) fd op nu tx ot=dw c fd op nu tx ot Itm.none from fun h k=>by unfold iC;rw [if_neg h,if_pos k]);have HE3:=Hd (show ¬ (bU fd op nu tx ot=false∨fV c fd=false∨(ot≠0∧fV c ot=false))→¬ (dA fd=false∧dA ot=false)→iC c (L.map (·.1)) fd op nu tx ot=(L.map (·.1)).any fun i=>fO i && dw c fd op nu tx ot i from fun h k=>by unfold iC;rw [if_neg h,if_neg k]);have HHF:=Hd (fun W=>JJ c r (.slice A n cp) fd W);have HHO:=Hd (fun W=>JJ c r (.slice A n cp) ot W);have HC:=Hd hC;have HB:=Hd hB;have HLI:=Hd hL;have Rs:=qN hT;clear hC hB hL hn hS;go_in;go_upto_region 1 with fail;generalize (w.alloc (.cells (bP fd op nu tx ot) 85)).alloc (.cells (aV c r (.slice A n cp)) 54)=W at *;go_cut [27] (fun u wx=>∃ bb:Bool,u= .bool bb∧(bb=true→bU fd op nu tx ot=false∨fV c fd=false∨(ot≠0∧fV c ot=false))∧(bb=false→¬ (bU fd op nu tx ot=false∨fV c fd=false∨(ot≠0∧fV c ot=false)))∧dW wx w.heap.size fd op nu tx ot∧aR wx (w.heap.size+1) c r (.slice A n cp)∧Below w.heap.size w wx);case first=>
  go_wp2_with fail;refine (HK.o _).mono ?_;rintro e w1 ⟨rfl,hb1⟩;have hT1:dW w1 w.heap.size fd op nu tx ot:=hT.below hb1;have HC1:=Hd (show aR w1 (w.heap.size+1) c r (.slice A n cp) from HC.o.below hb1);have HB1:=Hd (HB.o.trans (hb1.mono HB.o.size));clear hT HC HB HK hb1 Rs;have HT1:=Hd hT1;have q0:=hT1.c0;have q4:=hT1.c4;clear hT1;cases hs:bU fd op nu tx ot
  · have HS:=Hd hs;clear hs;go_wp2_with fail;go_meet;exact ⟨true,rfl,(fun _=> .inl HS.o),(fun h=>nomatch h),HT1.o,HC1.o,HB1.o⟩
  · have HS:=Hd hs;clear hs;go_wp2_with (((with_reducible refine gm ?_ 54 (.tmp 3) ?_ HC1.o ?_ _ Tryz.underlying54 ?_ ?_ ?_);(iterate 4 rfl);exact dK _ _ _));refine (HHF.o _).mono ?_;rintro e w2 ⟨rfl,hb2⟩;have hT2:dW w2 w.heap.size fd op nu tx ot:=HT1.o.below hb2;have HC2:=Hd (show aR w2 (w.heap.size+1) c r (.slice A n cp) from HC1.o.below hb2);have HB2:=Hd (aa HB1.o hb2);clear HT1 HC1 HB1 hb2 q0 q4;have HT2:=Hd hT2;have q0:=hT2.c0;have q4:=hT2.c4;clear hT2;cases h1:fV c fd
    · have H1:=Hd h1;clear h1;go_wp2_with fail;go_meet;exact ⟨true,rfl,(fun _=> .inr (.inl H1.o)),(fun h=>nomatch h),HT2.o,HC2.o,HB2.o⟩
    · have H1:=Hd h1;clear h1;by_cases h0:ot=0
      · have H0:=Hd h0;have b0:(ot != 0)=false:=(by simpa using h0);clear h0;go_wp2_with fail;go_meet;exact ⟨false,rfl,(fun h=>nomatch h),(fun _=>by rw [HS.o,H1.o];simp [H0.o]),HT2.o,HC2.o,HB2.o⟩
      · have H0:=Hd h0;have b0:(ot != 0)=true:=(by simpa using h0);clear h0;go_wp2_with (((with_reducible refine gm ?_ 54 (.tmp 3) ?_ HC2.o ?_ _ Tryz.underlying54 ?_ ?_ ?_);(iterate 4 rfl);exact dK _ _ _));refine (HHO.o _).mono ?_;rintro e w3 ⟨rfl,hb3⟩;have hT3:dW w3 w.heap.size fd op nu tx ot:=HT2.o.below hb3;have HC3:=Hd (show aR w3 (w.heap.size+1) c r (.slice A n cp) from HC2.o.below hb3);have HB3:=Hd (aa HB2.o hb3);clear HT2 HC2 HB2 hb3 q0 q4;have HT3:=Hd hT3;have q0:=hT3.c0;have q4:=hT3.c4;clear hT3;cases h2:fV c ot
        · have H2:=Hd h2;clear h2;go_wp2_with fail;go_meet;exact ⟨true,rfl,(fun _=> .inr (.inr ⟨H0.o,H2.o⟩)),(fun h=>nomatch h),HT3.o,HC3.o,HB3.o⟩
        · have H2:=Hd h2;clear h2;go_wp2_with fail;go_meet;exact ⟨false,rfl,(fun h=>nomatch h),(fun _=>by rw [HS.o,H1.o,H2.o];simp),HT3.o,HC3.o,HB3.o⟩
 case rest=>
 obtain ⟨bb,rfl,hby,hbn,hT3,hC3,hB3⟩:=hcut;generalize wc=w3 at *;have HT3:=Hd hT3;have HC3:=Hd hC3;have HB3:=Hd hB3;have q0:=hT3.c0;have q4:=hT3.c4;clear hT3 hC3 hB3 hT HC HB HK Rs;cases bb with
 | true=>
  have HF:=Hd (HE1.o (hby rfl));clear hby hbn;go_wp2_with fail;go_ret;exact ⟨aX HF.o.symm,HB3.o⟩
 | false=>
  have HG:=Hd (hbn rfl);clear hby hbn;have hso:bU fd op nu tx ot=true:=by
    cases h:bU fd op nu tx ot
    · exact absurd (.inl h) HG.o
    · rfl
  obtain ⟨rf,ro,rt⟩:=lC hso;have HV:=Hd (fun i ir W=>Pq c r (.slice A n cp) fd op nu tx ot i ir rf ro rt W);have HI1:=Hd (fun W=>Fu fd W);have HI2:=Hd (fun W=>Fu ot W);clear rf ro rt hso;go_upto_region 3 with fail;go_cut [37] (fun u wx=>∃ bb:Bool,u= .bool bb∧(bb=true→dA fd=false∧dA ot=false)∧(bb=false→¬ (dA fd=false∧dA ot=false))∧w3=wx);case first=>
    go_wp2_with fail;refine (HI1.o _).mono ?_;rintro e w9 ⟨rfl,rfl⟩;cases hf:dA fd
    · cases ht:dA ot
      · have HF:=Hd (And.intro hf ht);rw [ht] at HI2;clear hf ht;go_wp2_with fail;refine (HI2.o _).mono ?_;rintro e w9 ⟨rfl,rfl⟩;go_wp2_with fail;go_meet;exact ⟨true,rfl,(fun _=>HF.o),(fun h=>nomatch h),rfl⟩
      · have HF:=Hd ht;rw [ht] at HI2;clear hf ht;go_wp2_with fail;refine (HI2.o _).mono ?_;rintro e w9 ⟨rfl,rfl⟩;go_wp2_with fail;go_meet;exact ⟨false,rfl,(fun h=>nomatch h),(fun _ h=>by have h9:=HF.o;rw [h.2] at h9;cases h9),rfl⟩
    · have HF:=Hd hf;clear hf;go_wp2_with fail;go_meet;exact ⟨false,rfl,(fun h=>nomatch h),(fun _ h=>by have h9:=HF.o;rw [h.1] at h9;cases h9),rfl⟩
  case rest=>
  obtain ⟨bb,rfl,hby,hbn,rfl⟩:=hcut;cases bb with
  | true=>
    have HF:=Hd (HE2.o HG.o (hby rfl));clear hby hbn;have hlT:=qN HT3.o;go_wp2_with (((with_reducible refine aP ?_ 54 (.tmp 3) ?_ HC3.o ?_ _ Tryz.underlying54 ?_ ?_ ?_);(iterate 4 rfl);exact dK _ _ _));refine (HV.o Itm.none irZ _).mono ?_;rintro e w10 ⟨rfl,Tz⟩;have KS:=Hd (aa HB3.o Tz);go_wp2_with fail;go_ret;exact ⟨aX HF.o.symm,KS.o⟩
  | false=>
    have HF:=Hd (HE3.o HG.o (hbn rfl));clear hby hbn;go_wp2_with fail;go_loopw [5] (fun i wr' =>∃ k:Nat,k≤L.length∧i= .int .i64 (k:Int)∧Hid (∀ j (hj:j < L.length),j < k→(fO (L[j]'hj).1 && dw c fd op nu tx ot (L[j]'hj).1)=false)∧Below w3.heap.size w3 wr') (fun i _=>L.length - (intOf i).toNat);case atStart=>exact ⟨0,Nat.zero_le _,rfl,fun j _ hj=>by omega,Below.refl _ _⟩
    case round=>
      obtain ⟨k,hk,rfl,hno,hb⟩:=hrel;have HBR:=Hd (aa HB3.o hb);have hln:n=L.length:=HLN.o;subst hln;have hCR:aR wr (w.heap.size+1) c r (.slice A L.length cp):=HC3.o.below hb;have qi:=hCR.items;by_cases hlt:k < L.length
      · obtain ⟨ad,e,xJ,hcl⟩:=(HLI.o.keep HBR.o (Nat.le_refl _)) k hlt;cases e;have HTR:=Hd (show dW wr w.heap.size fd op nu tx ot from HT3.o.below hb);have HKR:=Hd (fun (x:World) (h:Below wr.heap.size wr x)=>Ps HTR.o hCR hcl (by rw [add_block];have:=HBR.o.size;omega) h);obtain ⟨_,TA,TB,TC,Rt,_⟩:=HKR.o wr (Below.refl _ _);have HOLD:=Hd hb;clear hcl hb q0 q4;generalize hy:L[k]'hlt=y at *;have HY:=Hd hy;clear hy;obtain ⟨⟨dev,ino,uid,gid,kind⟩,⟨gv,pa,dd,di,nm,ro,mo,pe⟩⟩:=y;simp only at Rt HKR;by_cases hd:dev=0
        · subst hd;by_cases hi:ino=0
          · subst hi;have HN:=Hd (show ∀ j (hj:j < L.length),j < k+1→(fO (L[j]'hj).1 && dw c fd op nu tx ot (L[j]'hj).1)=false from fun j hj hjk=>by
              by_cases e:j=k
              · subst e;rw [HY.o];rfl
              · exact hno.o j hj (by omega))
            have HQN:=Hd (fun n=>(HKR.o (wr.drewN n) (below_drewN (Below.refl _ _) n)).2.2.2.2.1);clear HKR TA TB TC Rt;go_wp2_with fail;have hqn:∀ n,(loadVar 44 ⟨(ad.add (k * 13)).block,(ad.add (k * 13)).off+5,none⟩).run Tryz.prog (wr.drewN n)= .ok (.agg #[.int .i64 0, .int .i64 0]) (wr.drewN n):=fun n=>HQN.o n;go_quiet (fail);go_wp2_with fail;go_roundw;case rel=>exact ⟨k+1,by omega,by go_num,HN,below_drewN HOLD.o _⟩
            case measure=>simp [intOf];omega
          · have hib:(ino == 0)=false:=(by simpa using hi);have HV1:=Hd (fun W=>HV.o ⟨0,ino,uid,gid,kind⟩ ⟨gv,pa,dd,di,nm,ro,mo,pe⟩ W);go_wp2_with fail
            go_region_held3 (fun w' =>Below wr.heap.size wr w' ∧(loadVar 85 ⟨w.heap.size,0,none⟩).run Tryz.prog w' = .ok (.agg (bP fd op nu tx ot)) w' ∧(loadVar 54 ⟨w.heap.size+1,0,none⟩).run Tryz.prog w' = .ok (.agg (aV c r (.slice (some ad) L.length cp))) w' ∧(loadVar 73 (ad.add (k * 13))).run Tryz.prog w' = .ok (.agg (az ⟨0,ino,uid,gid,kind⟩ ⟨gv,pa,dd,di,nm,ro,mo,pe⟩)) w' ∧(loadVar 44 ⟨(ad.add (k * 13)).block,(ad.add (k * 13)).off+5,none⟩).run Tryz.prog w' = .ok (.agg #[.int .i64 0, .int .i64 ino]) w' ∧w'.cell? ⟨w.heap.size+1,23,none⟩=some (.slice (some ad) L.length cp))
              (first | exact HKR.o _ (tY _) | exact HKR.o _ (aa (And.left (by assumption)) hb5))
              ((go_at_call 237;refine (HV1.o _).mono ?_;rintro e w5 ⟨rfl,hb5⟩))
            all_goals
              cases hh:dw c fd op nu tx ot ⟨0,ino,uid,gid,kind⟩
              · have HN:=Hd (show ∀ j (hj:j < L.length),j < k+1→(fO (L[j]'hj).1 && dw c fd op nu tx ot (L[j]'hj).1)=false from fun j hj hjk=>by
                  by_cases e:j=k
                  · subst e;rw [HY.o,hh];simp
                  · exact hno.o j hj (by omega))
                clear hh;go_wp2_with fail;go_roundw;case rel=>exact ⟨k+1,by omega,by go_num,HN,aa HOLD.o (And.left (by assumption))⟩
                case measure=>simp [intOf];omega
              · have zi:=Hd (HF.o.trans (kJ hlt (by rw [HY.o,hh];unfold fO;simp [hi])));clear hh;go_wp2_with fail;go_ret;exact ⟨aX zi.o.symm,aa HBR.o (And.left (by assumption))⟩
        · have hdb:(dev == 0)=false:=(by simpa using hd);have HV1:=Hd (fun W=>HV.o ⟨dev,ino,uid,gid,kind⟩ ⟨gv,pa,dd,di,nm,ro,mo,pe⟩ W);go_wp2_with fail
          go_region_held3 (fun w' =>Below wr.heap.size wr w' ∧(loadVar 85 ⟨w.heap.size,0,none⟩).run Tryz.prog w' = .ok (.agg (bP fd op nu tx ot)) w' ∧(loadVar 54 ⟨w.heap.size+1,0,none⟩).run Tryz.prog w' = .ok (.agg (aV c r (.slice (some ad) L.length cp))) w' ∧(loadVar 73 (ad.add (k * 13))).run Tryz.prog w' = .ok (.agg (az ⟨dev,ino,uid,gid,kind⟩ ⟨gv,pa,dd,di,nm,ro,mo,pe⟩)) w' ∧(loadVar 44 ⟨(ad.add (k * 13)).block,(ad.add (k * 13)).off+5,none⟩).run Tryz.prog w' = .ok (.agg #[.int .i64 dev, .int .i64 ino]) w' ∧w'.cell? ⟨w.heap.size+1,23,none⟩=some (.slice (some ad) L.length cp))
            (first | exact HKR.o _ (tY _) | exact HKR.o _ (aa (And.left (by assumption)) hb5))
            ((go_at_call 237;refine (HV1.o _).mono ?_;rintro e w5 ⟨rfl,hb5⟩))
          all_goals
            cases hh:dw c fd op nu tx ot ⟨dev,ino,uid,gid,kind⟩
            · have HN:=Hd (show ∀ j (hj:j < L.length),j < k+1→(fO (L[j]'hj).1 && dw c fd op nu tx ot (L[j]'hj).1)=false from fun j hj hjk=>by
                by_cases e:j=k
                · subst e;rw [HY.o,hh];simp
                · exact hno.o j hj (by omega))
              clear hh;go_wp2_with fail;go_roundw;case rel=>exact ⟨k+1,by omega,by go_num,HN,aa HOLD.o (And.left (by assumption))⟩
              case measure=>simp [intOf];omega
            · have zi:=Hd (HF.o.trans (kJ hlt (by rw [HY.o,hh];unfold fO;simp [hd])));clear hh;go_wp2_with fail;go_ret;exact ⟨aX zi.o.symm,aa HBR.o (And.left (by assumption))⟩
      · have HNO:=Hd (HF.o.trans (zh fun j hj=>hno.o j hj (by omega)));clear hb q0 q4;go_wp2_with fail;go_ret;exact ⟨aX HNO.o.symm,HBR.o⟩
end Go.Proofs.YtollifnnpihfdaaGreatDoor
