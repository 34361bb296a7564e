import Derived.Test.YtollifnnpihfdaaGreatDoorW24
import Derived.Test.YtollifnnpihfdaaGreatDoorW25
set_option maxRecDepth 100000
set_option maxHeartbeats 64000000
set_option linter.all false
namespace Go.Proofs.YtollifnnpihfdaaGreatDoor
open Go.RowKit
theorem Bf {w:World} {B:Nat} {A:Option Addr} {L:List Ds} (h:AtE EDs w B A L) (k:Nat):AtE EDs w B A (L.take k):=fun j hj=>by
 have hj' :j < L.length:=by rw [List.length_take] at hj;omega
 obtain ⟨ad,e,h1,h2⟩:=h j hj';exact ⟨ad,e,h1,by rw [List.getElem_take];exact h2⟩
theorem Bg {w:World} {B:Nat} {a:Addr} {L:List Ds} (h:AtE EDs w B (some a) L) (k:Nat):AtE EDs w B (some (a.add (k * 4))) (L.drop k):=fun j hj=>by
 have hj' :k+j < L.length:=by rw [List.length_drop] at hj;omega
 obtain ⟨ad,e,h1,h2⟩:=h (k+j) hj';injection e with e;subst e;refine ⟨a.add (k * 4),rfl,by rw [av];exact h1,fun i hi=>?_⟩;rw [List.getElem_drop, ← h2 i hi,show EDs.sz=4 from rfl,Addr.add_add a (k * 4) (j * 4), ← Nat.add_mul]
theorem qp {α:Type} {E:El α} {w:World} {base n cp:Nat} {A:Option Addr} {L:List α} (h:ax E w base (.slice A n cp) L):L.length≤cp:=by
 rcases h.2 with ⟨e,h0⟩ | ⟨g,cap,cur,hv,_,_,hle,_⟩
 · injection e with e1 e2 e3;omega
 · injection hv with e1 e2 e3;omega
theorem bZ {α:Type} {E:El α} {w:World} {base n cp:Nat} {A:Option Addr} {L:List α} (h:ax E w base (.slice A n cp) L):n=L.length∧(A=none→cp=0∧L= []):=by
 rcases h.2 with ⟨e,h0⟩ | ⟨g,cap,cur,hv,_,_,hle,_⟩
 · injection e with e1 e2 e3;exact ⟨by omega,fun _=>⟨e3,List.eq_nil_of_length_eq_zero h0⟩⟩
 · injection hv with e1 e2 e3;exact ⟨e2,fun e=>by rw [e1] at e;cases e⟩
theorem xG {w:World} {B c:Nat} {A:Option Addr} {L:List Ds} (h:AtE EDs w B A L) (hc:L.length≤c) (k:Nat):AtE EDs w B (if c=k then A else A.map (fun x=>x.add (k * 4))) (L.drop k):=by
 by_cases e:c=k
 · intro j hj;rw [List.length_drop] at hj;omega
 · rw [if_neg e];cases A with
   | none=>intro j hj;rw [List.length_drop] at hj;obtain ⟨ad,e,_⟩:=h 0 (by omega);cases e
   | some a=>exact Bg h k
theorem lD (a b:Int) (ps:List Pm) (A:Option Addr) (n c:Nat) (hn:n=ps.length) (hl:n≤16) (hk:∀ x∈ps,x.Ok) (pid:Int) (d i fl:Int) (w:World) (h:jC w w.heap.size A ps):
   Calls Tryz.prog 200 #[.agg (tbC a b (.slice A n c)), .int .i64 pid, .agg #[.int .i64 d, .int .i64 i], .int .i64 fl] w (He w):=by
 have HN:=Hd hn;have HL:=Hd hl;have HK:=Hd hk;have B0:=Hd (show Below w.heap.size w (((w.alloc (.cells (tbC a b (.slice A n c)) 34)).alloc (.cells #[.int .i64 d, .int .i64 i] 44)).alloc (.cells (tbC 0 0 (.slice none 0 0)) 34)) from (((Below.refl w.heap.size w).alloc (Nat.le_refl _) _).alloc (by simp) _).alloc (by simp;omega) _);have V0:=Hd (((Blk.new w (tbC a b (.slice A n c)) 34).alloc (.cells #[.int .i64 d, .int .i64 i] 44)).alloc (.cells (tbC 0 0 (.slice none 0 0)) 34));have U0:=Hd (show Blk (((w.alloc (.cells (tbC a b (.slice A n c)) 34)).alloc (.cells #[.int .i64 d, .int .i64 i] 44)).alloc (.cells (tbC 0 0 (.slice none 0 0)) 34)) (w.heap.size+1) 44 #[.int .i64 d, .int .i64 i] by
   have h:=((Blk.new (w.alloc (.cells (tbC a b (.slice A n c)) 34)) #[.int .i64 d, .int .i64 i] 44).alloc (.cells (tbC 0 0 (.slice none 0 0)) 34));simpa using h)
 have R0:=Hd (show Blk (((w.alloc (.cells (tbC a b (.slice A n c)) 34)).alloc (.cells #[.int .i64 d, .int .i64 i] 44)).alloc (.cells (tbC 0 0 (.slice none 0 0)) 34)) (w.heap.size+1+1) 34 (tbC 0 0 (.slice none 0 0)) by
   have h:=Blk.new ((w.alloc (.cells (tbC a b (.slice A n c)) 34)).alloc (.cells #[.int .i64 d, .int .i64 i] 44)) (tbC 0 0 (.slice none 0 0)) 34;simpa using h)
 have D0:=Hd (h.keep B0.o (Nat.le_refl _));clear h hn hl hk;go_in;go_upto_region 1 with fail;generalize (((w.alloc (.cells (tbC a b (.slice A n c)) 34)).alloc (.cells #[.int .i64 d, .int .i64 i] 44)).alloc (.cells (tbC 0 0 (.slice none 0 0)) 34))=w0 at *;go_wp2_with ((with_reducible refine az ?_ 34 (.tmp 4) ?_ V0.o ?_ _ Tryz.underlying34 ?_ ?_ ?_);(iterate 4 rfl);exact aK _ _ _);refine (jI a b pid ps A n c HN.o w0 (D0.o.more B0.o.size)).mono ?_;rintro e w1 ⟨hb1,rfl | ⟨y,hy,A2,c2,rfl,ho⟩⟩
 · have hba:=(Below.refl w1.heap.size w1).alloc (Nat.le_refl _) (.cells (psC zPc (.slice none 0 0)) 47);have R1:=Hd ((R0.o.below hb1).below hba);have B1:=Hd (aa (aa B0.o hb1) hba);clear hba hb1 V0 R0 B0 D0;go_wp2_with ((with_reducible refine ae ?_ 34 (.tmp 8) (.tmp 23) ?_ R1.o (tbC 0 0 (.slice none 0 0)) ?_ ?_ ?_ ?_ ?_ ?_);(iterate 4 rfl);(exact aK _ _ _);rfl;(exact aO _ _ _ _ _));refine bodyPost_ret (jo (fn:=Tryz.f200) rfl _ _ (w.heap.size+1+1) 0 0 (.slice none 0 0) rfl (Blk.row R1.o _)) rfl ?_;exact mJ B1.o (by omega) _ (by decide)
 · have hba:=(Below.refl w1.heap.size w1).alloc (Nat.le_refl _) (.cells (psC y.p (.slice A2 y.ds.length c2)) 47);have hbb:=aa hb1 hba;have hr1:=(R0.o.below hb1).lt;have F1:=Hd (show GtF w (w1.alloc (.cells (psC y.p (.slice A2 y.ds.length c2)) 47)) (w.heap.size+1+1) w1.heap.size a b A n c ps ⟨y.p,y.ds,A2,c2⟩ from ⟨V0.o.below hbb,R0.o.below hbb,Blk.new w1 _ _,(ho.low B0.o.size).below hba,D0.o.keep hbb B0.o.size,aa B0.o hbb,⟨by omega,hr1⟩,HK.o y hy⟩);have U0x:=Hd (U0.o.below hbb);clear hba hbb hb1 V0 R0 B0 D0 ho hr1 U0;go_upto_region 2 with fail;generalize w1.alloc (.cells (psC y.p (.slice A2 y.ds.length c2)) 47)=w2 at *;generalize w1.heap.size=gp at *;have HK2:=Hd F1.o.k;have HPL:=Hd (show ∀ q,(Value.slice A2 y.ds.length c2).ownBlock=some q→q < w2.heap.size from fun q e=>F1.o.P.lt q e);have hgl:gp < w2.heap.size:=F1.o.X.lt;have hwl:=F1.o.B.size;obtain ⟨lo,hlo⟩:∃ lo,lo=w2.heap.size:=⟨_,rfl⟩;have HLO:=Hd (show lo≤w2.heap.size by omega);rw [← hlo] at HPL hgl hwl;clear hlo;generalize hds:y.ds=ds at *;clear hds;have x12:=F1.o.X.cell 12;by_cases h8:8≤ds.length;case pos=>
    have q1:(8:Int)≤(ds.length:Int):=(by omega);clear h8;go_wp2_with ((with_reducible refine ae ?_ 34 (.tmp 8) (.tmp 28) ?_ F1.o.R (tbC 0 0 (.slice none 0 0)) ?_ ?_ ?_ ?_ ?_ ?_);(iterate 4 rfl);(exact aK _ _ _);rfl;(exact aO _ _ _ _ _));refine bodyPost_ret (jo (fn:=Tryz.f200) rfl _ _ (w.heap.size+1+1) 0 0 (.slice none 0 0) rfl (Blk.row F1.o.R _)) rfl ?_;exact mJ F1.o.B (by omega) _ (by decide)
   have q1:¬ (8:Int)≤(ds.length:Int):=(by omega);have H8:=Hd (show ds.length+1≤8 by omega);clear h8;go_upto_region 6 with fail;clear q1 x12;go_wp2_with fail;go_loopw [13] (fun i wr=>∃ k:Nat,k≤ds.length∧i= .int .i64 k∧wr=w2) (fun i _=>ds.length - (intOf i).toNat);case atStart=>exact ⟨0,Nat.zero_le _,rfl,rfl⟩
   obtain ⟨k,hk,rfl,rfl⟩:=hrel;have x12:=F1.o.X.cell 12;have WK:=Hd (bz hk (by have:=H8.o;omega));go_upto_region 7 with fail;go_cut [43] (fun u wx=>∃ bb:Bool,u= .bool bb∧(bb=true→k < ds.length)∧wr=wx);case first=>
    by_cases hlt:k < ds.length;case pos=>
     have k1:(k:Int) < (ds.length:Int):=(by omega);have k2:(0:Int)≤(k:Int):=(by omega);obtain ⟨am,e0,hab,hcx⟩:=aQ F1.o.P k hlt;have e1:A2=some am:=e0;subst e1;obtain ⟨s0,s1,s2,s3⟩:=mK (a:=am.add (k * 4)) hcx;clear hcx e0 hab s1 s2 s3;generalize ds[k]=d9 at *;go_wp2_with fail;go_meet;exact ⟨_,rfl,(fun _=>hlt),rfl⟩
    case neg=>
     have k1:¬ (k:Int) < (ds.length:Int):=(by omega);go_wp2_with fail;go_meet;exact ⟨false,rfl,(fun h=>nomatch h),rfl⟩
   case rest=>
   obtain ⟨bb,rfl,hbb,rfl⟩:=hcut;clear x12;cases bb;case true=>
    have hlt:=hbb rfl;clear hbb;obtain ⟨wk1,wk2⟩:=WK.o;go_wp2_with fail;clear wk1 wk2;go_roundw;case rel=>exact ⟨k+1,hlt,rfl,by first | rfl | trivial⟩
    case measure=>exact aN hlt _ rfl
   clear hbb;have x12:=F1.o.X.cell 12;go_upto_region 9 with fail;have hcp:ds.length≤c2:=qp F1.o.P;have k2:(0:Int)≤(k:Int):=(by omega);have k3:(k:Int)≤(c2:Int):=(by omega);have k4:(k:Int)≤(ds.length:Int):=(by omega);go_cut [14] (fun v wx=>∃ (A6:Option Addr) (c6:Nat),v= .slice A6 k c6∧ax EDs wx lo (.slice A6 k c6) (ds.take k)∧GtF w wx (w.heap.size+1+1) gp a b A n c ps ⟨y.p,ds,A2,c2⟩∧lo≤wx.heap.size∧Blk wx (w.heap.size+1) 44 #[.int .i64 d, .int .i64 i]);case first=>
    cases A2 with
    | none=>
     obtain ⟨e9,e8⟩:=(bZ F1.o.P).2 rfl;subst e9;subst e8;have k0:k=0:=Nat.le_zero.1 hk;subst k0;go_wp2_with fail;go_meet;exact ⟨none,0,rfl,ax.nil _ _,F1.o,HLO.o,U0x.o⟩
    | some am=>
     have HAT:=Hd (aQ F1.o.P);have HTL:=Hd (show (ds.take k).length=k from List.length_take_of_le hk);go_wp2_with (at_builtin;refine aj EDs rfl (.const (.slice none 0 0)) (.tmp 49) rfl lo (.slice none 0 0) [] rfl (ax.nil _ _) wr.heap.size _ _ _ (ds.take k) rfl ?_ ?_ (by have:=H8.o;rw [List.length_nil,HTL.o];omega) HLO.o ?_);case refine_2=>exact Bf HAT.o k
     intro v6 w6 ho6 hg6 ja;have F6:=Hd (F1.o.grown hg6 (fun q e=>by cases e) hgl HPL.o);have U6:=Hd (U0x.o.grown hg6 (fun e=>by cases e));have W6:=Hd (Nat.le_trans HLO.o hg6.size);obtain ⟨A6,c6,e6,_⟩:=ho6.at;subst e6;clear hg6 ja;rw [HTL.o] at ho6 ⊢;go_wp2_with fail;go_meet;exact ⟨_,_,rfl,ho6,F6.o,W6.o,U6.o⟩
   case rest=>
   obtain ⟨A6,c6,rfl,ho,hF,hW,hU⟩:=hcut;have O6:=Hd ho;have F6:=Hd hF;have W6:=Hd hW;have U6:=Hd hU;clear ho hF hW hU F1 HLO U0x x12;have u0:=U6.o.cell 0;have u1:=U6.o.cell 1;have HTL:=Hd (show (ds.take k).length=k from List.length_take_of_le hk);go_upto_region 10 with fail;have hba:=(Below.refl wc.heap.size wc).alloc (Nat.le_refl _) (.cells #[.int .i64 k, .int .i64 d, .int .i64 i, .int .i64 fl] 320);have F7:=Hd (F6.o.below hba);have O7:=Hd (O6.o.below hba);have W7:=Hd (Nat.le_trans W6.o hba.size);have RW:=Hd (aJ EDs wc #[.int .i64 k, .int .i64 d, .int .i64 i, .int .i64 fl] 320 ⟨(k:Int),d,i,fl⟩ rfl (Nat.lt_succ_self wc.heap.size));clear hba;go_wp2_with (at_builtin;refine aj EDs rfl (.tmp 51) (.tmp 56) rfl lo (.slice A6 k c6) (ds.take k) rfl O7.o (wc.heap.size+1) (some ⟨wc.heap.size,0,none⟩) 1 1 [⟨(k:Int),d,i,fl⟩] rfl rfl RW.o (by have:=H8.o;rw [HTL.o];simp;omega) W7.o ?_);intro v8 w8 ho8 hg8 tq;have F8:=Hd (F7.o.grown hg8 (fun q e=>O7.o.ge q e) hgl HPL.o);have W8:=Hd (Nat.le_trans W7.o hg8.size);obtain ⟨A8,c8,e8,_⟩:=ho8.at;subst e8;have O8:=Hd ho8;have HL8:=Hd (show (ds.take k ++ ([⟨(k:Int),d,i,fl⟩]:List Ds)).length=k+1 by rw [List.length_append,HTL.o];rfl);clear ho8 hg8 tq RW F7 O7 W7 F6 O6 W6 U6 u0 u1;generalize ds.take k ++ ([⟨(k:Int),d,i,fl⟩]:List Ds)=dk at *;have x12:=F8.o.X.cell 12;have f12:=F8.o.X.free 12;have HAT:=Hd (xG (aQ F8.o.P) hcp k);have HDL:=Hd (show (ds.drop k).length=ds.length - k from List.length_drop);go_upto_region 11 with fail;go_cut [] (fun wx=>∃ (A9:Option Addr) (c9:Nat) (zs:List Ds),GtF w wx (w.heap.size+1+1) gp a b A n c ps ⟨y.p,zs,A9,c9⟩);case first=>
    obtain ⟨a8,rfl⟩:∃ a8,A8=some a8:=by
     cases A8 with
     | none=>have h9:=((bZ O8.o).2 rfl).2;have h1:=HL8.o;rw [h9] at h1;cases h1
     | some a=>exact ⟨a,rfl⟩
    have hc8:dk.length≤c8:=qp O8.o;cases A2 with
    | none=>
     obtain ⟨e9,e8⟩:=(bZ F8.o.P).2 rfl;subst e9;subst e8;have k0:k=0:=Nat.le_zero.1 hk;subst k0;go_wp2_with fail;go_meet;exact ⟨_,_,_,F8.o.Hf (O8.o.low hwl) (by have:=H8.o;have h1:=HL8.o;omega)⟩
    | some am=>
     by_cases hck:c2=k
     · subst hck;go_wp2_with fail;go_meet;exact ⟨_,_,_,F8.o.Hf (O8.o.low hwl) (by have:=H8.o;have h1:=HL8.o;omega)⟩
     · clear hc8;go_wp2_with (at_builtin;refine aj EDs rfl (.tmp 58) (.tmp 62) rfl lo (.slice (some a8) dk.length c8) dk rfl O8.o w8.heap.size _ _ _ (ds.drop k) rfl ?_ ?_ (by have:=H8.o;have h1:=HL8.o;have h2:=HDL.o;omega) W8.o ?_);case refine_2=>have h9:=HAT.o;rw [if_neg hck] at h9;exact h9
       intro v9 w9 ho9 hg9 o5;have F9:=Hd (F8.o.grown hg9 (fun q e=>O8.o.ge q e) hgl HPL.o);obtain ⟨A9,c9,e9,_⟩:=ho9.at;subst e9;have O9:=Hd ho9;have HL9:=Hd (show (dk ++ ds.drop k).length≤8 by rw [List.length_append,HL8.o,HDL.o];have:=H8.o;omega);clear ho9 hg9 o5;generalize dk ++ ds.drop k=zs at *;clear x12 f12;have x12:=F9.o.X.cell 12;have f12:=F9.o.X.free 12;go_wp2_with fail;go_meet;exact ⟨_,_,_,F9.o.Hf (O9.o.low hwl) HL9.o⟩
   case rest=>
   obtain ⟨A9,c9,zs,hF⟩:=hcut;have F9:=Hd hF;clear hF F8 O8 W8 HAT x12 f12;go_upto_region 12 with fail;have FH:=Hd F9.o.h;go_wp2_with (first | ((with_reducible refine az ?_ 34 (.tmp 4) ?_ F9.o.V ?_ _ Tryz.underlying34 ?_ ?_ ?_);(iterate 4 rfl);exact aK _ _ _) | ((with_reducible refine az ?_ 47 (.tmp 11) ?_ F9.o.X ?_ _ Tryz.underlying47 ?_ ?_ ?_);(iterate 4 rfl);exact gJ _ _));refine (Be a b ps A n c HN.o HL.o HK.o ⟨y.p,zs,A9,c9⟩ F9.o.k w.heap.size wc (F9.o.D.more F9.o.B.size) F9.o.P F9.o.B.size).mono ?_;rintro e w5 ⟨A5,n5,c5,zs,rfl,hO,hb5,_⟩;have R5:=Hd (F9.o.R.below hb5);have B5:=Hd (aa F9.o.B hb5);have O5:=Hd hO;clear hO hb5 F9;go_wp2_with ((with_reducible refine ae ?_ 34 (.tmp 8) (.tmp 67) ?_ R5.o (tbC a b (.slice A5 n5 c5)) ?_ ?_ ?_ ?_ ?_ ?_);(iterate 4 rfl);(exact aK _ _ _);rfl;(exact aO _ _ _ _ _));refine bodyPost_ret (jo (fn:=Tryz.f200) rfl _ _ (w.heap.size+1+1) a b (.slice A5 n5 c5) rfl (Blk.row R5.o _)) rfl ?_;exact uA O5.o R5.o B5.o (by omega) _
def bX (w:World) (B:Nat) (A:Option Addr) (L:List (Itm×bF)):Prop:=∀ k (hk:k < L.length),∃ ad:Addr,A=some ad∧ad.block < B∧∀ j,j < 13→w.cell? ((ad.add (k * 13)).add j)=(aZ (L[k]'hk).1 (L[k]'hk).2)[j]?
theorem add_block (a:Addr) (n:Nat):(a.add n).block=a.block:=by unfold Addr.add;split <;> rfl
theorem bX.keep {w w' :World} {B B' :Nat} {A:Option Addr} {L:List (Itm×bF)} (h:bX w B A L) (hb:Below B' w w') (hB:B≤B'):bX w' B A L:=fun k hk=>by
 obtain ⟨ad,e,hl,hc⟩:=h k hk;exact ⟨ad,e,hl,fun j hj=>(hb.cell (by rw [add_block,add_block];omega)).trans (hc j hj)⟩
theorem bX.more {w:World} {B B' :Nat} {A:Option Addr} {L:List (Itm×bF)} (h:bX w B A L) (hB:B≤B'):bX w B' A L:=fun k hk=>by
 obtain ⟨ad,e,hl,hc⟩:=h k hk;exact ⟨ad,e,by omega,hc⟩
theorem bX.nil {w:World} {B:Nat} {A:Option Addr} :bX w B A []:=fun k hk=>by simp at hk
attribute [local irreducible] gu nV uD gK uE
end Go.Proofs.YtollifnnpihfdaaGreatDoor
namespace Go.Proofs.YtollifnnpihfdaaGreatDoor
open Go.RowKit
abbrev ko:Array Value:=#[.string ⟨#[]⟩, .string ⟨#[]⟩, .int .i64 0, .int .i64 0, .string ⟨#[]⟩, .int .i64 0, .int .i64 0, .int .i64 0, .int .i64 0, .int .i64 0, .int .i64 0, .int .i64 0, .int .i64 0]
theorem xI (i:Itm) (r:bF):ko.size=(aZ i r).size:=rfl
theorem jT (i:Itm) (r:bF):(aZ i r).all (·.oneCell')=true:=by simp [aZ,Value.oneCell']
section
variable {w wr w' :World} {base g gc:Nat} {b b' :Int} {i:Itm} {r:bF}
end
structure J0 (w wr:World) (base g:Nat) (b:Int):Prop where
 only:w.grownBy wr (some g)
 src:aX wr base g b
 rb:Blk wr w.heap.size 73 ko
 h3:g < w.heap.size
 h4:base≤w.heap.size
attribute [local irreducible] aZ
end Go.Proofs.YtollifnnpihfdaaGreatDoor
namespace Go.Proofs.YtollifnnpihfdaaGreatDoor
open Go.RowKit
theorem Tryz.Bh:(Tryz.prog.info? 73).map (fun i=>(i.zero,i.size,i.bytes))=some (some (.agg ko),13,128):=by kernel_rfl
def jU:El (Itm×bF) where
 C p:=(aZ p.1 p.2).toList
 e:=73
 sl:=52
 sz:=13
 bs:=128
 len _:=rfl
 one p u hu:=by
  have:=jT p.1 p.2;rw [← Array.all_toList,List.all_eq_true] at this;exact this u hu
 pos:=by omega
 small:=by omega
 hu:=Tryz.underlying52
 info:=by
  obtain ⟨i0,h1,h2,h3,h4⟩:=info_parts Tryz.Bh;exact ⟨i0,_,h1,h2,h3,h4,rfl⟩
theorem Tryz.EB:(Tryz.prog.info? 223).map (fun i=>(i.zero,i.size,i.bytes))=some (some (.agg (foC zFo)),8,72):=by kernel_rfl
def EFo:El Fo where
 C x:= [.int .i64 x.dd, .int .i64 x.di, .string x.nm, .int .i64 x.fd, .int .i64 x.fi, .bool x.ex, .bool x.sl, .string x.pa]
 e:=223
 sl:=174
 sz:=8
 bs:=72
 len _:=rfl
 one x u hu:=by simp at hu;rcases hu with rfl | rfl | rfl | rfl | rfl | rfl | rfl | rfl <;> rfl
 pos:=by omega
 small:=by omega
 hu:=Tryz.underlying174
 info:=by
  obtain ⟨i0,h1,h2,h3,h4⟩:=info_parts Tryz.EB;exact ⟨i0,_,h1,h2,h3,h4,rfl⟩
abbrev foZ:Array Value:=#[.int .i64 0, .int .i64 0, .string ⟨#[]⟩, .int .i64 0, .int .i64 0, .bool false, .bool false, .string ⟨#[]⟩]
structure Wu where
 p:Pc
 O:Option Addr
 no:Nat
 co:Nat
 z:Int
 a:Nat→Int
 P:Option Addr
 np:Nat
 cp:Nat
 G:Option Addr
 ng:Nat
 cg:Nat
 gh:List (Value×List (Itm×bF))
structure Wv where
 A:Option Addr
 n:Nat
 c:Nat
 Am:Option Addr
 nm:Nat
 cm:Nat
 ta:Int
 tb:Int
 At:Option Addr
 nt:Nat
 ct:Nat
 F:Option Addr
 nF:Nat
 cF:Nat
 ex:Int
 ch:Int
 go:Int
 I:Option Addr
 nI:Nat
 cI:Nat
 C:Option Addr
 nC:Nat
 cC:Nat
abbrev wkC (u:Wu) (v:Wv):Array Value:=#[.slice v.A v.n v.c, .slice v.Am v.nm v.cm, .int .i64 v.ta, .int .i64 v.tb, .slice v.At v.nt v.ct,
 .int .i64 u.p.pid, .int .i64 u.p.pp, .int .i64 u.p.ui, .int .i64 u.p.eu, .int .i64 u.p.gi, .int .i64 u.p.eg, .int .i64 u.p.au, .int .i64 u.p.se, .int .i64 u.p.cd, .int .i64 u.p.ci, .string u.p.co, .string u.p.ex, .slice u.O u.no u.co, .bool u.p.dl,
 .int .i64 u.z, .int .i64 (u.a 0), .int .i64 (u.a 1), .int .i64 (u.a 2), .int .i64 (u.a 3), .slice u.P u.np u.cp, .slice u.G u.ng u.cg,
 .slice v.F v.nF v.cF, .int .i64 v.ex, .int .i64 v.ch, .int .i64 v.go, .slice v.I v.nI v.cI, .slice v.C v.nC v.cC]
theorem aC.ku {w w' :World} {base g:Nat} {v:Value} {ds:List Dm} {t:TypeId} {cs:Array Value} (h:aC w base v ds) (hk:Blk w g t cs) (hg:w.grownBy w' (some g)) (h1:EDv.e≠t) (h2:ENd.e≠t) (h3:EEn.e≠t):aC w' base v ds:=
 h.far hg (fun q e=>by injection e with e;subst e;exact ⟨ay h.own hk h1,fun dd hdd=>ay (h.nodes dd hdd).1 hk h2,fun dd hdd y hy=>ay (h.bW dd hdd y hy).1 hk h3⟩)
def uJ (x:Itm×bF):Prop:=x.2.gv.size≤128∧x.2.pa.size≤640∧x.2.nm.size≤12
def nZ:List TypeId:= [142,145,209,199,47,320,223,73,283]
structure WkO (w:World) (base:Nat) (v:Wv) (ds:List Dm) (ms:List Mt) (fs:List Fo) (m:Nat):Prop where
 fo:aC w base (.slice v.A v.n v.c) ds
 mo:ax EMt w base (.slice v.Am v.nm v.cm) ms
 so:SOk (ds.map Dm.dv) ms
 tb:∃ ps,aI w base (.slice v.At v.nt v.ct) ps
 ff:ax EFo w base (.slice v.F v.nF v.cF) fs
 fk:∀ x∈fs,x.nm.size≤12∧x.pa.size≤640
 it:∃ is,ax jU w base (.slice v.I v.nI v.cI) is∧is.length=m∧∀ x∈is,uJ x
 ch:∃ cs,ax kJ w base (.slice v.C v.nC v.cC) cs∧cs.length≤2
section
variable {w w' :World} {base gw m:Nat} {u:Wu} {v v' :Wv} {ds:List Dm} {ms:List Mt} {fs:List Fo}
theorem WkO.below (h:WkO w base v ds ms fs m) (hb:Below w.heap.size w w'):WkO w' base v ds ms fs m:=by
 obtain ⟨ps,hp⟩:=h.tb;obtain ⟨is,h1,h2⟩:=h.it;obtain ⟨cs,h3,h4⟩:=h.ch;exact ⟨h.fo.below hb,h.mo.below hb,h.so,⟨ps,hp.below hb⟩,h.ff.below hb,h.fk,⟨is,h1.below hb,h2⟩,⟨cs,h3.below hb,h4⟩⟩
theorem iC {E t:TypeId} (h:E∈nZ) (ht:t ∉ nZ):E≠t:=fun e=>ht (e ▸ h)
theorem WkO.far (h:WkO w base v ds ms fs m) {k:Nat} {t:TypeId} {cs:Array Value} (hg:w.grownBy w' (some k)) (hk:Blk w k t cs) (ht:t ∉ nZ):WkO w' base v ds ms fs m:=by
 have T {α:Type} {E:El α} {V:Value} {L:List α} (ho:ax E w base V L) (hE:E.e∈nZ):ax E w' base V L:=
  ho.far hg (fun q e r=>by injection r with r;subst r;exact ay ho hk (iC hE ht) e)
 obtain ⟨ps,hp⟩:=h.tb;obtain ⟨is,h1,h2⟩:=h.it;obtain ⟨cs,h3,h4⟩:=h.ch;exact ⟨h.fo.ku hk hg (iC (by decide) ht) (iC (by decide) ht) (iC (by decide) ht),T h.mo (by decide),h.so,
  ⟨ps,hp.far hg (fun q e=>by injection e with e;subst e;exact hp.blk hk (iC (by decide) ht) (iC (by decide) ht))⟩,T h.ff (by decide),h.fk,⟨is,T h1 (by decide),h2⟩,⟨cs,T h3 (by decide),h4⟩⟩
theorem aC.rP {α:Type} {E:El α} {V:Value} {L:List α} {b:Nat} {U:Value} (h:aC w base U ds) (ho:ax E w b V L) (hg:w.grownBy w' V.ownBlock) (h1:EDv.e≠E.e) (h2:ENd.e≠E.e) (h3:EEn.e≠E.e):aC w' base U ds:=
 h.far hg fun k e=>⟨fun e2=>aB h.own ho h1 k e2 e,fun d hd e2=>aB (h.nodes d hd).1 ho h2 k e2 e,fun d hd x hx e2=>aB (h.bW d hd x hx).1 ho h3 k e2 e⟩
theorem ax.rP {α β:Type} {E:El α} {G:El β} {V U:Value} {L:List α} {M:List β} {b:Nat} (h:ax G w base U M) (ho:ax E w b V L) (hg:w.grownBy w' V.ownBlock) (h1:G.e≠E.e):ax G w' base U M:=
 h.far hg fun k e r=>aB h ho h1 k e r
theorem aI.rP {α:Type} {E:El α} {V U:Value} {L:List α} {b:Nat} {ps:List Pm} (h:aI w base U ps) (ho:ax E w b V L) (hg:w.grownBy w' V.ownBlock) (h1:EPc.e≠E.e) (h2:EDs.e≠E.e):aI w' base U ps:=
 h.far hg fun k e=>⟨fun e2=>aB h.own ho h1 k e2 e,fun x hx e2=>aB (h.op x hx).1 ho h2 k e2 e⟩
theorem WkO.items (h:WkO w base v ds ms fs m) {I2:Option Addr} {nI2 cI2 m2:Nat} {is2:List (Itm×bF)} (hg:w.grownBy w' (Value.slice v.I v.nI v.cI).ownBlock) (h2:ax jU w' base (.slice I2 nI2 cI2) is2) (hl:is2.length=m2) (hk:∀ x∈is2,uJ x):
  WkO w' base { v with I:=I2,nI:=nI2,cI:=cI2 } ds ms fs m2:=by
 obtain ⟨ps,hp⟩:=h.tb;obtain ⟨is,ho,_⟩:=h.it;obtain ⟨cs,h3,h4⟩:=h.ch;exact ⟨h.fo.rP ho hg (by decide) (by decide) (by decide),h.mo.rP ho hg (by decide),h.so,⟨ps,hp.rP ho hg (by decide) (by decide)⟩,h.ff.rP ho hg (by decide),h.fk,⟨is2,h2,hl,hk⟩,⟨cs,h3.rP ho hg (by decide),h4⟩⟩
theorem WkO.EC (h:WkO w base v ds ms fs m) {F2:Option Addr} {nF2 cF2:Nat} {fs2:List Fo} (hg:w.grownBy w' (Value.slice v.F v.nF v.cF).ownBlock) (h2:ax EFo w' base (.slice F2 nF2 cF2) fs2) (hk:∀ x∈fs2,x.nm.size≤12∧x.pa.size≤640):
  WkO w' base { v with F:=F2,nF:=nF2,cF:=cF2 } ds ms fs2 m:=by
 obtain ⟨ps,hp⟩:=h.tb;obtain ⟨is,h1,h5⟩:=h.it;obtain ⟨cs,h3,h4⟩:=h.ch;have ho:=h.ff;exact ⟨h.fo.rP ho hg (by decide) (by decide) (by decide),h.mo.rP ho hg (by decide),h.so,⟨ps,hp.rP ho hg (by decide) (by decide)⟩,h2,hk,⟨is,h1.rP ho hg (by decide),h5⟩,⟨cs,h3.rP ho hg (by decide),h4⟩⟩
theorem WkO.LH (h:WkO w base v ds ms fs m) {A2 C2:Option Addr} {n2 c2 nC2 cC2:Nat} {ds2:List Dm} {cs2:List Chg} (h1:aC w base (.slice A2 n2 c2) ds2) (h2:SOk (ds2.map Dm.dv) ms) (h3:ax kJ w base (.slice C2 nC2 cC2) cs2) (h4:cs2.length≤2):
 WkO w base { v with A:=A2,n:=n2,c:=c2,C:=C2,nC:=nC2,cC:=cC2 } ds2 ms fs m:=⟨h1,h.mo,h2,h.tb,h.ff,h.fk,h.it,⟨cs2,h3,h4⟩⟩
theorem WkO.LK (h:WkO w base v ds ms fs m) {A2:Option Addr} {n2 c2:Nat} {ps:List Pm} (a b:Int) (h1:aI w base (.slice A2 n2 c2) ps):WkO w base { v with ta:=a,tb:=b,At:=A2,nt:=n2,ct:=c2 } ds ms fs m:=⟨h.fo,h.mo,h.so,⟨ps,h1⟩,h.ff,h.fk,h.it,h.ch⟩
theorem WkO.LM (h:WkO w base v ds ms fs m) {A2 Am2:Option Addr} {n2 c2 nm2 cm2:Nat} {ds2:List Dm} {ms2:List Mt} (h1:aC w base (.slice A2 n2 c2) ds2) (h3:ax EMt w base (.slice Am2 nm2 cm2) ms2) (h2:SOk (ds2.map Dm.dv) ms2):
 WkO w base { v with A:=A2,n:=n2,c:=c2,Am:=Am2,nm:=nm2,cm:=cm2 } ds2 ms2 fs m:=⟨h1,h3,h2,h.tb,h.ff,h.fk,h.it,h.ch⟩
theorem WkO.few (h:WkO w base v ds ms fs m):v.nm=ms.length∧v.nm≤2∧v.n=ds.length:=by
 have h1:=(bZ h.mo).1;have h2:=h.so.2.few h.so.1.2.1;exact ⟨h1,by omega,h.fo.rO.2⟩
def wQ (w:World) (base:Nat) (u:Wu) (I:Option Addr):Prop:=∀ p∈u.gh,ax jU w base p.1 p.2∧∀ (q:Nat) (a:Addr),p.1.ownBlock=some q→I=some a→a.block≠q
theorem wQ.below {w w' :World} {base:Nat} {u:Wu} {I:Option Addr} (h:wQ w base u I) (hb:Below w.heap.size w w'):wQ w' base u I:=fun p hp=>⟨(h p hp).1.below hb,(h p hp).2⟩
theorem wQ.far {w w' :World} {base:Nat} {u:Wu} {I:Option Addr} (h:wQ w base u I) {k:Nat} {t:TypeId} {cs:Array Value} (hg:w.grownBy w' (some k)) (hk:Blk w k t cs) (ht:(73:Nat)≠t):wQ w' base u I:=fun p hp=>
 ⟨(h p hp).1.far hg (fun q e r=>by injection r with r;subst r;exact ay (h p hp).1 hk ht e),(h p hp).2⟩
theorem wQ.item {w w' :World} {base gI:Nat} {u:Wu} (h:wQ w base u (some ⟨gI,0,none⟩)) (hg:w.grownBy w' (some gI)):wQ w' base u (some ⟨gI,0,none⟩):=fun p hp=>
 ⟨(h p hp).1.far hg (fun q e r=>(h p hp).2 q ⟨gI,0,none⟩ e rfl (by injection r)),(h p hp).2⟩
structure WkS (w:World) (base gw:Nat) (u:Wu) (v:Wv) (ds:List Dm) (ms:List Mt) (fs:List Fo) (m:Nat):Prop where
 X:Blk w gw 176 (wkC u v)
 O:WkO w base v ds ms fs m
 hb:base≤gw
 gh:wQ w base u v.I
theorem WkS.below (h:WkS w base gw u v ds ms fs m) (hb:Below w.heap.size w w'):WkS w' base gw u v ds ms fs m:=⟨h.X.below hb,h.O.below hb,h.hb,h.gh.below hb⟩
theorem WkS.far (h:WkS w base gw u v ds ms fs m) {k:Nat} {t:TypeId} {cs:Array Value} (hg:w.grownBy w' (some k)) (hk:Blk w k t cs) (ht:t ∉ nZ) (hne:k≠gw):WkS w' base gw u v ds ms fs m:=
 ⟨h.X.grown hg (fun e=>hne (Option.some.inj e)),h.O.far hg hk ht,h.hb,h.gh.far hg hk (iC (by decide) ht)⟩
theorem WkS.big (h:WkS w base gw u v ds ms fs m):base≤w.heap.size:=by have:=h.hb;have:=h.X.lt;omega
end
def WkP (w:World) (base gw:Nat) (u:Wu) (fs:List Fo) (m:Nat) (e:Ending) (w' :World):Prop:=∃ (k:Int) (v:Wv) (ds:List Dm) (ms:List Mt),e= .returned (.int .i64 k)∧WkS w' base gw u v ds ms fs m∧Below base w w'
def WbP (w:World) (e:Ending) (w' :World):Prop:=(∃ b:Bool,e= .returned (.bool b))∧Below w.heap.size w w'
abbrev dF:Array Value:=#[.int .i64 0, .int .i64 0, .int .i64 0, .int .i64 0, .int .i64 0, .int .i64 0, .int .i64 0, .int .i64 0, .int .i64 0, .int .i64 0, .int .i64 0, .string ⟨#[]⟩, .string ⟨#[]⟩, .slice none 0 0, .bool false, .int .i64 0, .int .i64 0, .int .i64 0, .int .i64 0, .int .i64 0, .slice none 0 0, .slice none 0 0, .int .i64 0, .slice none 0 0, .int .i64 0]
attribute [local irreducible] gu
end Go.Proofs.YtollifnnpihfdaaGreatDoor
namespace Go.Proofs.YtollifnnpihfdaaGreatDoor
open Go.RowKit
theorem vE (c:Ctx) (r:dX) (A:Option Addr) (n cp:Nat):(gu c r (.slice A n cp)).all (·.oneCell')=true:=by simp [gu,Value.oneCell']
def Ho (w:World) (base:Nat) (v:Value) (L:List (Itm×bF)):Prop:=w.ownsRow base 73 13 v L.length (L.flatMap fun p=>(aZ p.1 p.2).toList)
theorem mZ (i:Itm) (r:bF):(aZ i r).toList.length=13:=rfl
theorem dI:∀ (L:List (Itm×bF)) (k:Nat) (hk:k < L.length) (j:Nat),j < 13→(L.flatMap fun p=>(aZ p.1 p.2).toList)[k * 13+j]? =(aZ (L[k]'hk).1 (L[k]'hk).2)[j]?
 | [],k,hk,_,_=>by simp at hk
 | p :: L,0,_,j,hj=>by
  rw [List.flatMap_cons,List.getElem?_append_left (by rw [mZ];omega)];simp
 | p :: L,k+1,hk,j,hj=>by
  have ih:=dI L k (by simp at hk;omega) j hj;rw [List.flatMap_cons,List.getElem?_append_right (by rw [mZ];omega),mZ,show (k+1) * 13+j - 13=k * 13+j by omega,ih];simp
theorem Fq (g a b:Nat):((⟨g,0,none⟩:Addr).add a).add b=⟨g,a+b,none⟩:=by
 unfold Addr.add;split
 · split
   · subst_vars;rfl
   · subst_vars;simp
 · split
   · subst_vars;simp
   · simp
theorem add_zero (g n:Nat):(⟨g,0,none⟩:Addr).add n=⟨g,n,none⟩:=by
 unfold Addr.add;split
 · subst_vars;rfl
 · simp
theorem Ho.items {w:World} {base:Nat} {v:Value} {L:List (Itm×bF)} (h:Ho w base v L):∃ A c,v= .slice A L.length c∧bX w w.heap.size A L:=by
 rcases Joins.ownsRow_forms h with ⟨rfl,h0⟩ | ⟨g,cap,rfl⟩
 · have:L= []:=List.eq_nil_of_length_eq_zero h0;subst this;exact ⟨none,0,rfl,bX.nil⟩
 · refine ⟨_,cap,rfl,fun k hk=>⟨_,rfl,(World.ownsRow.lt h g rfl).2,fun j hj=>?_⟩⟩;have hf:=dI L k hk j hj;have hs:j < (aZ (L[k]'hk).1 (L[k]'hk).2).size:=hj;rw [Array.getElem?_eq_getElem hs] at hf ⊢;have hc:=World.ownsRow.cells h (g:=g) rfl (k * 13+j) _ hf;rw [add_zero] at hc;rw [Fq];exact hc
structure K1 (w wr:World) (base g:Nat) (b:Int) (gc:Nat) (c:Ctx) (r:dX) (it:Value):Prop where
 only:w.grownBy wr (some g)
 src:aX wr base g b
 rb:Blk wr w.heap.size 54 dF
 cb:Blk wr gc 54 (gu c r it)
 h2:w.heap.size < gc
 h3:g < w.heap.size
 h4:base≤w.heap.size
section
variable {w wr w' :World} {base g gc:Nat} {b b' :Int} {c:Ctx} {r:dX} {it:Value}
end
attribute [local irreducible] gu aZ
end Go.Proofs.YtollifnnpihfdaaGreatDoor
namespace Go.Proofs.YtollifnnpihfdaaGreatDoor
open Go.RowKit
theorem BI (a:Addr) (w:World):(loadVar 3 a).run Tryz.prog w=(load a).run Tryz.prog w:=by
 unfold loadVar;simp [go_sem]
theorem BK (a:Addr) (w:World):(loadVar 9 a).run Tryz.prog w=(load a).run Tryz.prog w:=by
 unfold loadVar;simp [go_sem]
theorem zI {w:World} {g:Nat} {c:Ctx} {r:dX} {it:Value} (h:gZ w g c r it):(loadVar 54 ⟨g,0,none⟩).run Tryz.prog w= .ok (.agg (gu c r it)) w:=run_loadVar_row w g _ _ _ _ _ h Tryz.underlying54 rfl (qw _ _ _)
theorem Fs {w:World} {g:Nat} {i:Itm} {r:bF} (h:ib w g i r):(loadVar 73 ⟨g,0,none⟩).run Tryz.prog w= .ok (.agg (aZ i r)) w:=run_loadVar_row w g _ _ _ _ _ h Tryz.underlying73 rfl (jq _ _)
attribute [local irreducible] gu aZ nV I8 Ku gK
attribute [-go_sem] loadVar
attribute [local go_sem] BI BK
end Go.Proofs.YtollifnnpihfdaaGreatDoor
namespace Go.Proofs.YtollifnnpihfdaaGreatDoor
open Go.RowKit
theorem vF {P:Program} {w:World} {a:Addr} {ty:TypeId} {cs:Array Value} {d:TypeDesc} (h:∀ j v,cs.toList[j]? =some v→w.cell? (a.add j)=some v)
  (hu:P.underlying ty=some d) (hd:(match d with | .struct _ | .array _ _=>true | _=>false)=true) (hi:(P.info? ty).map (·.size)=some cs.size):
  (loadVar ty a).run P w= .ok (.agg cs) w:=by
 have hl:(loadCells a cs.toList.length).run P w= .ok cs.toList.toArray w:=run_loadCells_list (P:=P) w a cs.toList h;cases hq:P.info? ty with
 | none=>simp [hq] at hi
 | some i=>
  have hs:i.size=cs.size:=by simpa [hq] using hi
  have hagg:(isAgg ty).run P w= .ok true w:=by
   unfold isAgg;rw [Sem.run_bind,run_underlying hu w];cases d <;> simp_all
  simp only [Array.length_toList,Array.toArray_toList] at hl;simp [loadVar,Sem.run_bind,hagg,sizeOf,typeInfo,hq,hs,hl]
theorem BL {w:World} {a:Addr} {i:Itm} {r:bF} (h:∀ j,j < 13→w.cell? (a.add j)=(aZ i r)[j]?):(loadVar 73 a).run Tryz.prog w= .ok (.agg (aZ i r)) w:=
 vF (fun j v hv=>by
  have hj:j < 13:=by
   rcases Nat.lt_or_ge j 13 with hj | hj
   · exact hj
   · rw [List.getElem?_eq_none (by show 13≤j;exact hj)] at hv;cases hv
  rw [h j hj];simpa using hv) Tryz.underlying73 rfl (jq _ _)
theorem BM (x y:Int):(Tryz.prog.info? 44).map (·.size)=some (#[Value.int .i64 x, .int .i64 y]:Array Value).size:=by show _=some 2;kernel_rfl
theorem BN {w:World} {b o:Nat} {x y:Int} (h5:w.cell? ⟨b,o,none⟩=some (.int .i64 x)) (h6:w.cell? ⟨b,o+1,none⟩=some (.int .i64 y)):(loadVar 44 ⟨b,o,none⟩).run Tryz.prog w= .ok (.agg #[.int .i64 x, .int .i64 y]) w:=
 vF (fun j v hv=>by
  match j with
  | 0=>simp at hv;subst hv;exact h5
  | 1=>simp at hv;subst hv;exact h6
  | j+2=>simp at hv) Tryz.underlying44 rfl (BM _ _)
theorem Ms (a:Addr) (w:World):(loadVar 52 a).run Tryz.prog w=(load a).run Tryz.prog w:=by
 unfold loadVar;simp [go_sem]
attribute [local irreducible] gu nV uD gK uE uF xH I9
attribute [-go_sem] loadVar
attribute [local go_sem] BI BK Ms
end Go.Proofs.YtollifnnpihfdaaGreatDoor
namespace Go.Proofs.YtollifnnpihfdaaGreatDoor
open Go.RowKit
theorem Fw {w:World} {base:Nat} {e:TypeId} {size:Nat} {v:Value} {k:Nat} {xs:List Value} (h:w.ownsRow base e size v k xs) {q:Nat} {t:TypeId} {cs:Array Value} (hk:Blk w q t cs) (hne:e≠t):v.ownBlock≠some q:=fun e2=>by
 rcases h.2 with ⟨rfl,_⟩ | ⟨g',cap,cur,rfl,_,hgg,_⟩
 · cases e2
 · have e3:g' =q:=Option.some.inj e2;subst e3;rw [show w.heap[g']? =_ from hk] at hgg;injection hgg with hgg;injection hgg with _ h2;exact hne h2.symm
theorem nk {w w' :World} {base:Nat} {e:TypeId} {size:Nat} {v:Value} {k:Nat} {xs:List Value} (h:w.ownsRow base e size v k xs) {q:Nat} {t:TypeId} {cs:Array Value} (hk:Blk w q t cs) (hne:e≠t) (hg:w.grownBy w' (some q)):w'.ownsRow base e size v k xs:=
 World.ownsRow.kept h hg (by
  cases hv:v.ownBlock with
  | none=>exact .inl rfl
  | some k=>right;intro e2;exact Fw h hk hne (by rw [hv];exact e2))
end Go.Proofs.YtollifnnpihfdaaGreatDoor
