import Derived.Test.YtollifnnpihfdaaGreatDoorG15
import Derived.StillTailTactics
set_option maxRecDepth 100000
set_option maxHeartbeats 64000000
set_option linter.all false
namespace Go.Proofs.YtollifnnpihfdaaGreatDoor
open Go.RowKit
theorem vk (li:Int):cB li=((li == 2) || (li == 3)):=by
 unfold cB;by_cases h2:li=2
 · simp [h2]
 · by_cases h3:li=3
   · simp [h3]
   · simp [h2,h3]
attribute [local irreducible] ai dC cB aZ jN bH dL fu
theorem vB (r:Rul) (A:Option Addr) (c n:Nat) (hn:n=r.ts.length) (hz:Jp r) (w:World) (hT:aY w w.heap.size A r.ts):
   Calls Tryz.prog 91 #[oF r (.slice A n c)] w fun e w' =>e= .returned (.int .i64 (bH r))∧Below w.heap.size w w' :=by
 obtain ⟨HG0,HB0⟩:=GQ w r (.slice A n c);have HT:=Hd (hT.keep HB0 (Nat.le_refl _));have HB:=Hd HB0;have HG:=Hd HG0;clear HG0 HB0;by_cases hl1:r.li < 1
 · rw [mW (.inl hl1)];have d1:decide (r.li < 1)=true:=decide_eq_true hl1;clear hT hz hn;go_in;go_wp2_with fail;go_ret;exact ⟨rfl,HB.o⟩
 by_cases hl5:5 < r.li
 · rw [mW (.inr hl5)];have d1:decide (r.li < 1)=false:=decide_eq_false hl1;have d2:decide (5 < r.li)=true:=decide_eq_true hl5;clear hT hz hn;go_in;go_wp2_with fail;go_ret;exact ⟨rfl,HB.o⟩
 have d1:decide (r.li < 1)=false:=decide_eq_false hl1;have d2:decide (5 < r.li)=false:=decide_eq_false hl5;by_cases hac:r.ac=1∨r.ac=2;case neg=>
   rw [xS ⟨by omega,by omega⟩ ⟨fun h=>hac (.inl h),fun h=>hac (.inr h)⟩];have b1:(r.ac == 1)=false:=(by simp;omega);have b2:(r.ac == 2)=false:=(by simp;omega);have b3:(r.ac != 1)=true:=(by simp;omega);have b4:(r.ac != 2)=true:=(by simp;omega);clear hT hz hn hac;go_in;go_wp2_with fail;go_ret;exact ⟨rfl,HB.o⟩
 case pos=>
 have HCA:=Hd (fun (h:fu r=false)=>sM ⟨by omega,by omega⟩ hac h);have HTA:=Hd (fun (h:fu r=true)=>vg ⟨by omega,by omega⟩ hac h);have hca:=hz.ca;have hke:=hz.ke;have hpa:=hz.pa;have HTX:=Hd hz.tx;have HN:=Hd hn;have hln:n≤1000000:=by rw [hn];exact hz.ln
 have HV:=Hd (fun W=>JO r.ca W);have H5:=Hd (show cB r.li=false→fu r=decide (r.ca=0) from fun h=>kL h);have H6:=Hd (show cB r.li=true→fu r=decide (r.ca≠0∧r.ca < 4294967296) from fun h=>jM h);have J6:=Hd (fun (h:8 < r.ts.length)=>zB h);have QM:=Hd (fun (h0:¬ 8 < r.ts.length) (k:Nat) (hk:k < r.ts.length) (h1:aZ (r.ts.take k) r.li=0) (h:(r.ts[k]'hk).chk r.li≠0)=>zC h0 hk h1 h);have QN:=Hd (fun (h0:¬ 8 < r.ts.length) (h1:aZ r.ts r.li=0) (h:dC r.wa r.pe r.li r.pa=false)=>xU h0 h1 h);have HKEY:=Hd (fun (h0:¬ 8 < r.ts.length) (h1:aZ r.ts r.li=0) (h2:dC r.wa r.pe r.li r.pa=true) (h:31 < r.ke.size)=>Dz h0 h1 h2 h);have HOK:=Hd (fun (h0:¬ 8 < r.ts.length) (h1:aZ r.ts r.li=0) (h2:dC r.wa r.pe r.li r.pa=true) (h:¬ 31 < r.ke.size)=>GR h0 h1 h2 h);have HPC:=Hd (fun W=>YtollifnnpihfdaaGreatDoor.u6 r.pa W hpa);generalize jN r=res at *;generalize bH r=SF at *;generalize fu r=cok at *;clear hz hT hn hl1 hl5;obtain ⟨li,ac,ca,ts,wa,pa,pe,ke⟩:=r;simp only at *;have M9:=Hd (vk li);go_in;go_upto_region 3 with fail;go_cut [21] (fun v wx=>v= .bool false∧wx=(w.alloc (.cells (bK ⟨li,ac,ca,ts,wa,pa,pe,ke⟩ (.slice A n c)) 90)));case first=>
   rcases hac with rfl | rfl;all_goals
    go_wp2_with fail;go_meet;exact ⟨rfl,rfl⟩
 case rest=>
   obtain ⟨rfl,rfl⟩:=hcut;clear hac;go_upto_region 5 with fail;go_cut [3] (fun v wx=>v= .bool (cB li)∧wx=(w.alloc (.cells (bK ⟨li,ac,ca,ts,wa,pa,pe,ke⟩ (.slice A n c)) 90)));case first=>
    by_cases h2:li=2
    · have b2:(li == 2)=true:=(by simpa using h2);have HX:=Hd (show cB li=true by rw [M9.o,b2];rfl);clear h2;go_wp2_with fail;go_meet;exact ⟨by rw [HX.o],rfl⟩
    · have b2:(li == 2)=false:=(by simpa using h2);cases b3:(li == 3)
      · have HX:=Hd (show cB li=false by rw [M9.o,b2,b3];rfl);clear h2;go_wp2_with fail;go_meet;exact ⟨by rw [HX.o],rfl⟩
      · have HX:=Hd (show cB li=true by rw [M9.o,b2,b3];rfl);clear h2;go_wp2_with fail;go_meet;exact ⟨by rw [HX.o],rfl⟩
   case rest=>
    obtain ⟨rfl,rfl⟩:=hcut;clear M9;generalize cB li=cb at *;go_upto_region 6 with fail;go_cut [50] (fun v wx=>v= .bool (!cok)∧wx=(w.alloc (.cells (bK ⟨li,ac,ca,ts,wa,pa,pe,ke⟩ (.slice A n c)) 90)));case first=>
      cases cb
      · have h5:=H5.o rfl;by_cases hz:ca=0
        · have b5:((ca:Int) != 0)=false:=(by simp [hz]);have HX:=Hd (show cok=true by rw [h5];simp [hz]);clear h5 hz H5 H6;go_wp2_with fail;go_meet;exact ⟨by rw [HX.o];rfl,rfl⟩
        · have b5:((ca:Int) != 0)=true:=(by simp [hz]);have HX:=Hd (show cok=false by rw [h5];simp [hz]);clear h5 hz H5 H6;go_wp2_with fail;go_meet;exact ⟨by rw [HX.o];rfl,rfl⟩
      · have h6:=H6.o rfl;by_cases hz:ca=0
        · have b5:((ca:Int) == 0)=true:=(by simp [hz]);have HX:=Hd (show cok=false by rw [h6];simp [hz]);clear h6 hz H5 H6;go_wp2_with fail;go_meet;exact ⟨by rw [HX.o];rfl,rfl⟩
        · have b5:((ca:Int) == 0)=false:=(by simp [hz]);by_cases hlt:ca < 4294967296
          · have HX:=Hd (show cok=true by rw [h6];simp [hz,hlt]);rw [zD hlt] at HV;clear h6 hz H5 H6 hlt;go_wp2_with fail;refine (HV.o _).mono ?_;rintro e w1 ⟨rfl,rfl⟩;go_wp2_with fail;go_meet;exact ⟨by rw [HX.o];rfl,rfl⟩
          · have HX:=Hd (show cok=false by rw [h6];simp [hz,hlt]);rw [zF hlt] at HV;clear h6 hz H5 H6 hlt;go_wp2_with fail;refine (HV.o _).mono ?_;rintro e w1 ⟨rfl,rfl⟩;go_wp2_with fail;go_meet;exact ⟨by rw [HX.o];rfl,rfl⟩
    case rest=>
      obtain ⟨rfl,rfl⟩:=hcut;clear H5 H6 HV hca;cases cok
      · have HR:=Hd (HCA.o rfl);go_wp2_with fail;go_ret;exact ⟨by rw [HR.o];rfl,HB.o⟩
      have HCR:=Hd (HTA.o rfl);clear HCA HTA;by_cases hl:8 < n
      · have d8:decide ((8:Int) < (n:Int))=true:=decide_eq_true (by omega);have HR:=Hd (HCR.o.trans (J6.o (by rw [← HN.o];exact hl)));go_wp2_with fail;go_ret;exact ⟨by rw [HR.o];rfl,HB.o⟩
      · have d8:decide ((8:Int) < (n:Int))=false:=decide_eq_false (by omega);have HL:=Hd (show ¬ 8 < ts.length by rw [← HN.o];exact hl);clear J6;go_wp2_with fail;go_loopw [4] (fun i wr=>∃ k:Nat,k≤n∧i= .int .i64 (k:Int)∧Hid (aZ (ts.take k) li=0)∧dF wr w.heap.size ⟨li,ac,ca,ts,wa,pa,pe,ke⟩ (.slice A n c)∧Below w.heap.size w wr∧aY wr w.heap.size A ts) (fun i _=>n - (intOf i).toNat);case atStart=>exact ⟨0,Nat.zero_le _,rfl,Hd (xV ts li),HG.o,HB.o,HT.o⟩
        case round=>
          obtain ⟨k,hk,rfl,hfe,hg,hb,ht⟩:=hrel;clear HG HB HT;have HG:=Hd hg;have HB:=Hd hb;have HT:=Hd ht;have q3:=hg.c3;by_cases hlt:k < n
          · have hkl:k < ts.length:=(by rw [← HN.o];exact hlt);obtain ⟨ad,rfl,xJ,t0,t1,t2,t3,t4⟩:=ht.cells hkl;have q0:=hg.c0;have HTS:=Hd (QM.o HL.o k hkl hfe.o);have HFN:=Hd (fun h=>uU (l:=li) hkl hfe.o h);have HCK:=Hd (zg (ts[k]'hkl).fd (ts[k]'hkl).op (ts[k]'hkl).nu (ts[k]'hkl).tx (ts[k]'hkl).ot li (HTX.o _ (List.getElem_mem hkl)));have k0:(0:Int)≤(k:Int):=(by omega);have kn:(k:Int) < (n:Int):=(by omega);clear hg hb ht;unfold Tst.chk at HTS HFN;generalize ts[k]=t at *;obtain ⟨fd,op,nu,tx,ot⟩:=t;simp only at t0 t1 t2 t3 t4 HTS HFN HCK;go_wp2_with fail;go_still_tail 7,(by kernel_rfl);go_wp2_with fail;refine (HCK.o _).mono ?_;rintro e w2 ⟨rfl,hb2⟩;have HB2:=Hd (HB.o.trans (((below_drewN (Below.refl wr.heap.size wr) _).trans hb2).mono HB.o.size));have HG2:=Hd (Blk.below (HG.o.drewN _) hb2);have HT2:=Hd (((HT.o.keep (below_drewN (Below.refl wr.heap.size wr) _) (Nat.le_of_lt HG.o.lt)).keep hb2 (Nat.le_of_lt HG.o.lt)));clear hb2 q0 q3 t0 t1 t2 t3 t4;by_cases hne:ai fd op nu tx ot li=0
            · have HF:=Hd (HFN.o hne);rw [hne];clear hne;go_wp2_with fail;go_roundw;case rel=>
                (repeat apply Exists.intro);refine ⟨?_,rfl⟩;exact ⟨k+1,by omega,by go_num,HF,HG2.o,HB2.o,HT2.o⟩
              case measure=>simp [intOf];omega
            · have HR:=Hd (HCR.o.trans (HTS.o hne));have bn:=J5 hne;clear hne;go_wp2_with fail;go_ret;exact ⟨by rw [HR.o];rfl,HB2.o⟩
          · have hkn:k=n:=(by omega);subst hkn;have HF:=Hd (show aZ ts li=0 by have:=hfe.o;rw [HN.o,List.take_length] at this;exact this);obtain ⟨q0,q1,q2,q3',q4,q5,q6,q7⟩:=gW hg;have HBAD:=Hd (fun h=>HCR.o.trans (QN.o HL.o HF.o h));have HK1:=Hd (fun h k=>HCR.o.trans (HKEY.o HL.o HF.o h k));have HK2:=Hd (fun h k=>HCR.o.trans (HOK.o HL.o HF.o h k));clear hfe hg hb ht hlt QM QN HKEY HOK HCR HL HF HT HTX HN;obtain ⟨kb,hkb,hres⟩:∃ kb:Bool,decide ((31:Int) < (ke.size:Int))=kb∧Hid (dC wa pe li pa=true→SF=if kb then 135 else 0):=by
              by_cases hk3:31 < ke.size
              · exact ⟨true,decide_eq_true (by omega),Hd (fun h=>HK1.o h hk3)⟩
              · exact ⟨false,decide_eq_false (by omega),Hd (fun h=>HK2.o h hk3)⟩
            clear HK1 HK2 hke;by_cases h0:wa=0
            · subst h0;by_cases hz:pa.size=0
              · have e1:=jB hz;by_cases hq:pe=0
                · have HR:=Hd (hres.o ((jL rfl).trans (decide_eq_true ⟨hz,hq⟩)));have b1:(pe != 0)=false:=(by simpa using hq);clear hz hq hres HBAD;cases kb;all_goals
                    go_wp2_with fail;go_ret;exact ⟨by rw [HR.o];rfl,HB.o⟩
                · have HR:=Hd (HBAD.o ((jL rfl).trans (decide_eq_false (fun h=>hq h.2))));have b1:(pe != 0)=true:=(by simpa using hq);clear hz hq hres HBAD;go_wp2_with fail;go_ret;exact ⟨by rw [HR.o];rfl,HB.o⟩
              · have e1:=dB hz;have e2:pa.toList.isEmpty=false:=(by simpa using e1);have HR:=Hd (HBAD.o ((jL rfl).trans (decide_eq_false (fun h=>hz h.1))));clear hz hres HBAD;go_wp2_with fail;go_ret;exact ⟨by rw [HR.o];rfl,HB.o⟩
            · have b0:(wa == 0)=false:=(by simpa using h0);by_cases h12:wa=1∨wa=2
              · have HW:=Hd (YtollifnnpihfdaaGreatDoor.u7 (pe:=pe) (li:=li) (pa:=pa) h12);by_cases h3:li=3
                · have b3:(li != 3)=false:=(by simpa using h3);by_cases hs:pa.size≤128
                  · have ds:decide ((128:Int) < (pa.size:Int))=false:=decide_eq_false (by omega);by_cases hp1:1≤pe
                    · have dp1:decide (pe < 1)=false:=decide_eq_false (by omega);by_cases hp2:pe≤15
                      · have dp2:decide (15 < pe)=false:=decide_eq_false (by omega);have HW2:=Hd (show dC wa pe li pa=dL pa by rw [HW.o,decide_eq_true h3,decide_eq_true (show pa.size≤128∧1≤pe∧pe≤15 from ⟨hs,hp1,hp2⟩)];simp);clear HW h0 h3 hs hp1 hp2;cases hcb:dL pa
                        · have HR:=Hd (HBAD.o (HW2.o.trans hcb));rw [hcb] at HPC;clear hcb hres HBAD HW2;rcases h12 with rfl | rfl;all_goals
                           go_wp2_with fail;refine (HPC.o _).mono ?_;rintro e w2 ⟨rfl,hb2⟩;have HB2:=Hd (aa HB.o hb2);obtain ⟨p0,p1,p2,p3,p4,p5,p6,p7⟩:=gW (Blk.below HG.o hb2);clear hb2 q0 q1 q2 q3 q3' q4 q5 q6 q7;go_wp2_with fail;go_ret;exact ⟨by rw [HR.o];rfl,HB2.o⟩
                        · have HR:=Hd (hres.o (HW2.o.trans hcb));rw [hcb] at HPC;clear hcb hres HBAD HW2;(rcases h12 with rfl | rfl <;> cases kb);all_goals
                           go_wp2_with fail;refine (HPC.o _).mono ?_;rintro e w2 ⟨rfl,hb2⟩;have HB2:=Hd (aa HB.o hb2);obtain ⟨p0,p1,p2,p3,p4,p5,p6,p7⟩:=gW (Blk.below HG.o hb2);clear hb2 q0 q1 q2 q3 q3' q4 q5 q6 q7;go_wp2_with fail;go_ret;exact ⟨by rw [HR.o];rfl,HB2.o⟩
                      · have dp2:decide (15 < pe)=true:=decide_eq_true (by omega);have HR:=Hd (HBAD.o (by rw [HW.o,decide_eq_false (show ¬ (pa.size≤128∧1≤pe∧pe≤15) from fun h=>hp2 h.2.2)];simp));clear HW h0 h3 hs hp1 hp2 hres HBAD;generalize dL pa=cb at *;(rcases h12 with rfl | rfl <;> cases cb);all_goals
                          go_wp2_with fail;refine (HPC.o _).mono ?_;rintro e w2 ⟨rfl,hb2⟩;have HB2:=Hd (aa HB.o hb2);obtain ⟨p0,p1,p2,p3,p4,p5,p6,p7⟩:=gW (Blk.below HG.o hb2);clear hb2 q0 q1 q2 q3 q3' q4 q5 q6 q7;go_wp2_with fail;go_ret;exact ⟨by rw [HR.o];rfl,HB2.o⟩
                    · have dp1:decide (pe < 1)=true:=decide_eq_true (by omega);have HR:=Hd (HBAD.o (by rw [HW.o,decide_eq_false (show ¬ (pa.size≤128∧1≤pe∧pe≤15) from fun h=>hp1 h.2.1)];simp));clear HW h0 h3 hs hp1 hres HBAD;generalize dL pa=cb at *;(rcases h12 with rfl | rfl <;> cases cb);all_goals
                        go_wp2_with fail;refine (HPC.o _).mono ?_;rintro e w2 ⟨rfl,hb2⟩;have HB2:=Hd (aa HB.o hb2);obtain ⟨p0,p1,p2,p3,p4,p5,p6,p7⟩:=gW (Blk.below HG.o hb2);clear hb2 q0 q1 q2 q3 q3' q4 q5 q6 q7;go_wp2_with fail;go_ret;exact ⟨by rw [HR.o];rfl,HB2.o⟩
                  · have ds:decide ((128:Int) < (pa.size:Int))=true:=decide_eq_true (by omega);have HR:=Hd (HBAD.o (by rw [HW.o,decide_eq_false (show ¬ (pa.size≤128∧1≤pe∧pe≤15) from fun h=>hs h.1)];simp));clear HW h0 h3 hs hres HBAD;generalize dL pa=cb at *;(rcases h12 with rfl | rfl <;> cases cb);all_goals
                      go_wp2_with fail;refine (HPC.o _).mono ?_;rintro e w2 ⟨rfl,hb2⟩;have HB2:=Hd (aa HB.o hb2);obtain ⟨p0,p1,p2,p3,p4,p5,p6,p7⟩:=gW (Blk.below HG.o hb2);clear hb2 q0 q1 q2 q3 q3' q4 q5 q6 q7;go_wp2_with fail;go_ret;exact ⟨by rw [HR.o];rfl,HB2.o⟩
                · have b3:(li != 3)=true:=(by simpa using h3);have HR:=Hd (HBAD.o (by rw [HW.o,decide_eq_false h3];simp));clear HW h0 h3 hres HBAD;rcases h12 with rfl | rfl;all_goals
                    go_wp2_with fail;go_ret;exact ⟨by rw [HR.o];rfl,HB.o⟩
              · have h1:wa≠1:=fun h=>h12 (.inl h);have h2:wa≠2:=fun h=>h12 (.inr h);have HR:=Hd (HBAD.o (ve h0 h1 h2));have b1:(wa == 1)=false:=(by simpa using h1);have b2:(wa == 2)=false:=(by simpa using h2);clear h0 h1 h2 h12 hres HBAD;go_wp2_with fail;go_ret;exact ⟨by rw [HR.o];rfl,HB.o⟩
end Go.Proofs.YtollifnnpihfdaaGreatDoor
