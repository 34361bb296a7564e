import Derived.Test.YtollifnnpihfdaaGreatDoorX25
import Derived.Test.YtollifnnpihfdaaGreatDoorX33
set_option maxRecDepth 100000
set_option maxHeartbeats 64000000
set_option linter.all false
namespace Go.Proofs.YtollifnnpihfdaaGreatDoor
open Go.RowKit
theorem vJ (k md:Int) (s:ByteArray):Tryz.prog.built 145 [(1, .int .i64 k),(2, .int .i64 md),(6, .string s)]=some (ndC ⟨0,k,md,0,0,0,s, []⟩ (.slice none 0 0)):=by kernel_rfl
theorem vK (k md:Int):Tryz.prog.built 145 [(1, .int .i64 k),(2, .int .i64 md)]=some (ndC ⟨0,k,md,0,0,0,⟨#[]⟩, []⟩ (.slice none 0 0)):=by kernel_rfl
theorem WkA.arg {w:World} {base:Nat} {u:Wu} {ps gs:List ByteArray} (h:WkA w base u ps gs) (hz:u.z=9∨u.z=19):∃ (ad:Addr) (s:ByteArray),u.G=some ad∧ad.block < base∧w.cell? ad=some (.string s)∧s.size≤64∧(0:Int) < (u.ng:Int):=by
 have h1:=(gB h.ck).2.1;have h2:(dI u.z).least=1:=by
  rcases hz with hz | hz <;> rw [hz]
  · decide+kernel
  · decide+kernel
 rw [h2] at h1;have h3:0 < gs.length:=h1;obtain ⟨ad,e,hb,hc⟩:=h.G 0 h3;exact ⟨ad,gs[0]'h3,e,hb,oZ ad ▸ hc,h.hg _ (List.getElem_mem h3),by rw [h.ng];omega⟩
theorem Ad (base gw m:Nat) (u:Wu) (v:Wv) (ds:List Dm) (ms:List Mt) (fs:List Fo) (ps gs:List ByteArray) (hn:0 < fs.length) (hm:0 < m) (w:World) (ha:WkA w base u ps gs) (h:WkS w base gw u v ds ms fs m):
  Calls Tryz.prog 145 #[.pointer (some ⟨gw,0,none⟩)] w (WkP w base gw u fs m):=by
 have HW:=Hd h;have H0:=Hd hn;obtain ⟨gF,hF,_,_,hnF⟩:=aX h.O.ff hn;have HF:=Hd hF;have k1:(0:Int) < (v.nF:Int):=by rw [hnF];omega
 have k1a:0 < v.nF:=by omega
 have k1b:v.nF≠0:=by omega
 have k1c:¬ v.nF≤0:=by omega
 have HNM:=Hd (h.O.fk _ (List.getElem_mem H0.o));obtain ⟨a,ha⟩:∃ a,a=fs[0]'H0.o:=⟨_,rfl⟩;have HE0:=Hd ha.symm;have HNA:=Hd (show a.nm.size≤12∧a.pa.size≤640 by rw [ha];exact HNM.o);clear ha;have x26:w.cell? ⟨gw,26,none⟩=some (.slice (some ⟨gF,0,none⟩) v.nF v.cF):=by rw [← HF.o];exact h.X.cell 26
 have y00:w.cell? ⟨gF,0,none⟩=some (.int .i64 a.dd):=by have h9:=h.fnd HF.o H0.o 0 (by omega);rw [HE0.o] at h9;exact h9
 have y01:w.cell? ⟨gF,1,none⟩=some (.int .i64 a.di):=by have h9:=h.fnd HF.o H0.o 1 (by omega);rw [HE0.o] at h9;exact h9
 have y02:w.cell? ⟨gF,2,none⟩=some (.string a.nm):=by have h9:=h.fnd HF.o H0.o 2 (by omega);rw [HE0.o] at h9;exact h9
 have y03:w.cell? ⟨gF,3,none⟩=some (.int .i64 a.fd):=by have h9:=h.fnd HF.o H0.o 3 (by omega);rw [HE0.o] at h9;exact h9
 have y04:w.cell? ⟨gF,4,none⟩=some (.int .i64 a.fi):=by have h9:=h.fnd HF.o H0.o 4 (by omega);rw [HE0.o] at h9;exact h9
 have y05:w.cell? ⟨gF,5,none⟩=some (.bool a.ex):=by have h9:=h.fnd HF.o H0.o 5 (by omega);rw [HE0.o] at h9;exact h9
 have y06:w.cell? ⟨gF,6,none⟩=some (.bool a.sl):=by have h9:=h.fnd HF.o H0.o 6 (by omega);rw [HE0.o] at h9;exact h9
 have y07:w.cell? ⟨gF,7,none⟩=some (.string a.pa):=by have h9:=h.fnd HF.o H0.o 7 (by omega);rw [HE0.o] at h9;exact h9
 have S0:=Hd (RdW.new w 223 (foC a));clear h hn hF hnF HNM;go_in;go_upto_region 2 with fail;clear x26 k1 k1a k1b k1c y00 y01 y02 y03 y04 y05 y06 y07;generalize w.alloc (.cells (foC a) 223)=w0 at *;have HM:=Hd hm;have HA:=Hd ha;clear hm ha;have b5:w0.cell? ⟨w.heap.size,5,none⟩=some (.bool a.ex):=S0.o.x.cell 5;cases hc:a.ex;case true=>
  rw [hc] at b5;go_wp2_with fail;go_ret;exact ⟨_,v,ds,ms,rfl,HW.o.below S0.o.b,S0.o.b.mono HW.o.big⟩
 rw [hc] at b5;clear hc;go_upto_region 4 with fail;clear b5;have b6:w0.cell? ⟨w.heap.size,6,none⟩=some (.bool a.sl):=S0.o.x.cell 6;have x19:w0.cell? ⟨gw,19,none⟩=some (.int .i64 u.z):=(HW.o.below S0.o.b).X.cell 19;go_cut [13] (fun bv wx=>(∃ bb:Bool,bv= .bool bb)∧w0=wx);case first=>
  cases hsl:a.sl;case true=>
   rw [hsl] at b6;go_wp2_with fail;go_meet;exact ⟨⟨_,rfl⟩,rfl⟩
  case false=>
   rw [hsl] at b6;go_wp2_with fail;go_meet;exact ⟨⟨_,rfl⟩,rfl⟩
 case rest=>
 obtain ⟨⟨bb,rfl⟩,rfl⟩:=hcut;cases bb;case true=>
  go_wp2_with fail;go_ret;exact ⟨_,v,ds,ms,rfl,HW.o.below S0.o.b,S0.o.b.mono HW.o.big⟩
 have b0:w0.cell? ⟨w.heap.size,0,none⟩=some (.int .i64 a.dd):=S0.o.x.cell 0;have b1:w0.cell? ⟨w.heap.size,1,none⟩=some (.int .i64 a.di):=S0.o.x.cell 1;go_wp2_with fail;clear b0 b1 b6 x19;refine (vC base gw m u v ds ms fs a.dd a.di 2 w0 (HW.o.below S0.o.b)).mono ?_;rintro e w3 ⟨⟨bm,rfl⟩,hb⟩;replace S0:=Hd (S0.o.below hb);clear hb;cases bm;case false=>
  go_wp2_with fail;go_ret;exact ⟨_,v,ds,ms,rfl,HW.o.below S0.o.b,S0.o.b.mono HW.o.big⟩
 have x19:w3.cell? ⟨gw,19,none⟩=some (.int .i64 u.z):=(HW.o.below S0.o.b).X.cell 19;by_cases hz:u.z=9;case pos=>
  obtain ⟨ad,s,eG,hab,hcs,hss,g1⟩:=HA.o.arg (.inl hz);have HSS:=Hd hss;have hcy:w3.cell? ad=some (.string s):=(S0.o.b.cell (by have:=HW.o.big;omega)).trans hcs;have x25:w3.cell? ⟨gw,25,none⟩=some (.slice (some ad) u.ng u.cg):=by rw [← eG];exact (HW.o.below S0.o.b).X.cell 25
  clear hcs eG hss hab;obtain ⟨p1,p2⟩:=bH hz;clear hz;go_wp2_with ((with_reducible refine kN ?_ 145 _ ?_ (ndC ⟨0,3,511,0,0,0,s, []⟩ (.slice none 0 0)) ?_ ?_);rfl;rfl;(go_simp;exact vJ 3 511 s));clear hcy x25 g1 p1 p2 x19;refine (qh base gw m u v ds ms fs 0 0 rfl H0.o HM.o ⟨0,3,511,0,0,0,s, []⟩ none 0 0 (by have:=HSS.o;show s.size≤maxLen;unfold maxLen;omega) w3 (HW.o.below S0.o.b)).mono ?_;rintro e w8 ⟨kk,v7,d7,rfl,hw7,hb7,_,_,_⟩;have W7:=Hd hw7;have B7:=Hd ((S0.o.b.mono HW.o.big).trans hb7);clear hw7 hb7;go_wp2_with fail;go_ret;exact ⟨kk,v7,d7,ms,rfl,W7.o,B7.o⟩
 obtain ⟨p1,p2⟩:=aN hz;clear hz;have x20:w3.cell? ⟨gw,20,none⟩=some (.int .i64 (u.a 0)):=(HW.o.below S0.o.b).X.cell 20;go_wp2_with ((with_reducible refine kN ?_ 145 _ ?_ (ndC ⟨0,2,u.a 0,0,0,0,⟨#[]⟩, []⟩ (.slice none 0 0)) ?_ ?_);rfl;rfl;(go_simp;exact vK 2 (u.a 0)));clear p1 p2 x19 x20;refine (qh base gw m u v ds ms fs 0 0 rfl H0.o HM.o ⟨0,2,u.a 0,0,0,0,⟨#[]⟩, []⟩ none 0 0 (by show (0:Nat)≤maxLen;exact Nat.zero_le _) w3 (HW.o.below S0.o.b)).mono ?_;rintro e w8 ⟨kk,v7,d7,rfl,hw7,hb7,_,_,_⟩;have W7:=Hd hw7;have B7:=Hd ((S0.o.b.mono HW.o.big).trans hb7);clear hw7 hb7;go_wp2_with fail;go_ret;exact ⟨kk,v7,d7,ms,rfl,W7.o,B7.o⟩
end Go.Proofs.YtollifnnpihfdaaGreatDoor
