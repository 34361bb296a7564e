import Derived.Test.YtollifnnpihfdaaGreatDoorB34
set_option maxRecDepth 100000
set_option maxHeartbeats 64000000
set_option linter.all false
namespace Go.Proofs.YtollifnnpihfdaaGreatDoor
open Go.RowKit
theorem FOk.tg {f:List Dv} (h:FOk f) {dev ino:Int} {n:Nd} (hn:aD f dev ino=some n):n.tg.size≤128:=by
 obtain ⟨d,hd,hm,_⟩:=aG hn;exact (h.2.2 d (bz hd)).tgs n hm
theorem full_of {L:List ByteArray} {p:ByteArray} (h:∀ x∈L,x.size≤p.size) (hp:p.size≤128):∀ x∈L.filter gJ,x.size≤128:=fun x hx=>by
 have:=h x (List.mem_filter.1 hx).1;omega
theorem tV (dev ino:Int) (ds:List Dm) (A:Option Addr) (n c:Nat) (hn:n=ds.length) (ms:List Mt) (Am:Option Addr) (nm cm:Nat) (hnm:nm=ms.length) (hl:nm≤1000) (hok:SOk (ds.map Dm.dv) ms) (w:World) (hf:bZ w w.heap.size A ds) (hm:AtE EMt w w.heap.size Am ms):
   Calls Tryz.prog 28 #[.agg #[slV A n c,slV Am nm cm],flV dev ino] w fun e w' =>∃ (s:ByteArray) (b:Bool),e= .returned (.tuple #[.string s, .bool b])∧s.size≤586∧Below w.heap.size w w' :=by
 by_cases h:(bM (ds.map Dm.dv) dev ino && fE ms dev)=true
 · obtain ⟨L,k,h1,h2,_⟩:=hok.FD (Bool.and_eq_true .. ▸ h).2 (Bool.and_eq_true .. ▸ h).1;refine (pI ds A n c hn ms Am nm cm hnm hl hok.1 hok.2.zero h1 h2 w hf hm).mono ?_;rintro e w' ⟨rfl,hb⟩;exact ⟨_,_,rfl,jO (h1.names hok.1) h2,hb⟩
 · refine (pG dev ino ds A n c hn ms Am nm cm hnm hl w hf hm (Bool.eq_false_iff.2 h)).mono ?_;rintro e w' ⟨rfl,hb⟩;exact ⟨_,_,rfl,Nat.zero_le _,hb⟩
theorem xB (dev ino:Int) (ds:List Dm) (A:Option Addr) (n c:Nat) (hn:n=ds.length) (hok:FOk (ds.map Dm.dv)) (w:World) (h:bZ w w.heap.size A ds):
  Calls Tryz.prog 70 #[fsV A n c,flV dev ino] w fun e w' =>∃ (nd:Nd) (A2:Option Addr) (n2 c2:Nat) (b:Bool),e= .returned (.tuple #[.agg (ndC nd (.slice A2 n2 c2)), .bool b])∧nd.tg.size≤128∧Below w.heap.size w w' :=by
 refine (bQ dev ino ds A n c hn w h).mono ?_;intro e w' hp;cases hq:aD (ds.map Dm.dv) dev ino with
 | none=>
  rw [hq] at hp;obtain ⟨rfl,hb⟩:=hp;exact ⟨zNd,none,0,0,false,rfl,Nat.zero_le _,hb⟩
 | some nd=>
  rw [hq] at hp;obtain ⟨A2,c2,rfl,_,hb,_⟩:=hp;exact ⟨nd,A2,_,c2,true,rfl,hok.tg hq,hb⟩
theorem FdF.fin {w wr:World} {A Am:Option Addr} {n c nm cm:Nat} {ds:List Dm} {ms:List Mt} {d i:Int} (h:FdF w wr A n c ds Am nm cm ms d i) (x:Fo) (k:Int) (h1:x.nm.size≤12) (h2:x.pa.size≤640):FoP w (.returned (.tuple #[.agg (foC x), .int .i64 k])) (wr.setRow (w.heap.size+1+1) (foC x)):=⟨x,k,rfl,h1,h2,ai h.f.low (by omega) _⟩
theorem xC (k j a b:Nat) (hj:j=k+1) (hk:k≤7) (ha:a≤2000):(9 - (intOf (.int .i64 ((j:Nat):Int))).toNat) * 10000+a < (9 - (intOf (.int .i64 ((k:Nat):Int))).toNat) * 10000+b:=by
 subst hj;simp only [intOf,Int.toNat_natCast];omega
theorem KY (d i:Int) (p:ByteArray) (hp:p.size≤100000) (fw:Bool) (ds:List Dm) (A:Option Addr) (n c:Nat) (hn:n=ds.length) (ms:List Mt) (Am:Option Addr) (nm cm:Nat) (hnm:nm=ms.length) (hl:nm≤1000) (hok:SOk (ds.map Dm.dv) ms) (w:World) (hf:bZ w w.heap.size A ds) (hm:AtE EMt w w.heap.size Am ms):
  Calls Tryz.prog 135 #[.agg #[slV A n c,slV Am nm cm],flV d i, .string p, .bool fw] w (FoP w):=by
 have HN:=Hd hn;have HNM:=Hd hnm;have HL:=Hd hl;have HOK:=Hd hok;have HP:=Hd hp;have h3:=Blk.new ((w.alloc (.cells #[slV A n c,slV Am nm cm] 31)).alloc (.cells #[.int .i64 d, .int .i64 i] 44)) (foC zFo) 223;simp only [World.size_alloc] at h3;have S0:=Hd (show FdF w (((w.alloc (.cells #[slV A n c,slV Am nm cm] 31)).alloc (.cells #[.int .i64 d, .int .i64 i] 44)).alloc (.cells (foC zFo) 223)) A n c ds Am nm cm ms d i from ⟨(SrF.start w hf hm).alloc _,h3⟩);clear h3 hf hm hn hnm hl hok hp;go_in;go_upto_region 1 with fail;have hz:(foC zFo)=#[.int .i64 0, .int .i64 0, .string ⟨#[]⟩, .int .i64 0, .int .i64 0, .bool false, .bool false, .string ⟨#[]⟩]:=rfl;rw [hz] at S0;clear hz;generalize ((w.alloc (.cells #[slV A n c,slV Am nm cm] 31)).alloc (.cells #[.int .i64 d, .int .i64 i] 44)).alloc (.cells #[.int .i64 0, .int .i64 0, .string ⟨#[]⟩, .int .i64 0, .int .i64 0, .bool false, .bool false, .string ⟨#[]⟩] 223)=w0 at *;go_wp2_with fail;refine (wU p w0 HP.o).mono ?_;rintro e w1 ⟨v,L0,ab,sl,rfl,hw,hown,hb⟩;have hsz:=hw.size;have hos:=nX hown;obtain ⟨A1,c1,rfl,_⟩:=hos.at;have S1:=Hd (S0.o.grow hb);have P1:=Hd hos;have HSZ:=Hd hsz;have HLF:=Hd (show (L0.filter gJ).length≤p.size+1 from Nat.le_trans (List.length_filter_le _ _) hsz.1);clear hw hown hb hsz hos S0;cases hpe:p.toList.isEmpty with
 | true=>
  go_wp2_with ((with_reducible refine ae ?_ 223 (.tmp 8) (.tmp 34) ?_ S1.o.R (foC zFo) ?_ ?_ ?_ ?_ ?_ ?_);(iterate 4 rfl);(exact dB _);rfl;(exact bK _));refine bodyPost_ret (dQ (fn:=Tryz.f135) rfl _ _ (w.heap.size+1+1) zFo rfl (Blk.row S1.o.R _)) rfl ?_;exact S1.o.err 2
 | false=>
  by_cases h128:p.size≤128;case neg=>
   have q1:(128:Int) < (p.size:Int):=(by omega);go_wp2_with ((with_reducible refine ae ?_ 223 (.tmp 8) (.tmp 38) ?_ S1.o.R (foC zFo) ?_ ?_ ?_ ?_ ?_ ?_);(iterate 4 rfl);(exact dB _);rfl;(exact bK _));refine bodyPost_ret (dQ (fn:=Tryz.f135) rfl _ _ (w.heap.size+1+1) zFo rfl (Blk.row S1.o.R _)) rfl ?_;exact S1.o.err 36
  case pos=>
   have q1:¬ (128:Int) < (p.size:Int):=(by omega);have HSF:=Hd (full_of HSZ.o.2 h128);have HLF:=Hd (show (L0.filter gJ).length≤129 by have:=HLF.o;omega);clear h128 HSZ;have u0:=S1.o.f.U.cell 0;have u1:=S1.o.f.U.cell 1;generalize L0.filter gJ=Lf at *;have hg1:w.heap.size+1+1 < w1.heap.size:=S1.o.R.lt;have P1L:=Hd (show ∀ q,(Value.slice A1 Lf.length c1).ownBlock=some q→q < w1.heap.size from fun q e=>P1.o.lt q e);have S2:=Hd (S1.o.alloc (.cells #[.int .i64 d, .int .i64 i] 44));have D2:=Hd (Blk.new w1 #[.int .i64 d, .int .i64 i] 44);have P2:=Hd (P1.o.alloc (.cells #[.int .i64 d, .int .i64 i] 44));clear S1 P1;go_upto_if 40 with fail;clear u0 u1;generalize w1.alloc (.cells #[.int .i64 d, .int .i64 i] 44)=w2 at *;go_cut [] (fun wx=>FdF w wx A n c ds Am nm cm ms d i∧(∃ a b:Int,Blk wx w1.heap.size 44 #[.int .i64 a, .int .i64 b])∧ax rq wx w0.heap.size (.slice A1 Lf.length c1) Lf);case first=>
    cases ab with
    | true=>
     have v0:=S2.o.f.V.cell 0;have v1:=S2.o.f.V.cell 1;go_wp2_with fail;clear v0 v1;refine (Gj A n c ms Am nm cm HNM.o HL.o w2 (S2.o.f.aR)).mono ?_;rintro e w3 ⟨a,b,rfl,hb⟩;have S3:=Hd (S2.o.grow hb);have D3:=Hd (D2.o.below hb);have P3:=Hd (P2.o.below hb);clear hb;go_wp2_with ((with_reducible refine ae ?_ 44 (.tmp 13) (.tmp 42) ?_ D3.o #[.int .i64 a, .int .i64 b] ?_ ?_ ?_ ?_ ?_ ?_);(iterate 4 rfl);(exact dK _ _);rfl;(exact bU _ _));go_meet;have hgx:=aA w3 w1.heap.size #[.int .i64 a, .int .i64 b];exact ⟨S3.o.row hg1 _,⟨a,b,D3.o.row _⟩,P3.o.far hgx (fun q e r=>by injection r with r;have:=P1L.o q e;omega)⟩
    | false=>
     go_wp2_with fail;go_meet;exact ⟨S2.o,⟨d,i,D2.o⟩,P2.o⟩
   case rest=>
    obtain ⟨hS,⟨a0,b0,hD⟩,hP⟩:=hcut;have S4:=Hd hS;have D4:=Hd hD;have P4:=Hd hP;clear hS hD hP S2 D2 P2;have e0:=D4.o.cell 0;have e1:=D4.o.cell 1;have v0:=S4.o.f.V.cell 0;have v1:=S4.o.f.V.cell 1;go_wp2_with fail;clear v0 v1;clear e0 e1;refine (jG a0 b0 ds A n c HN.o wc S4.o.f.files).mono ?_;rintro e w5 ⟨rfl,hb⟩;have S5:=Hd (S4.o.grow hb);have D5:=Hd (D4.o.below hb);have P5:=Hd (P4.o.below hb);clear hb S4 D4 P4;cases hd0:bM (ds.map Dm.dv) a0 b0 with
    | false=>
     go_wp2_with ((with_reducible refine ae ?_ 223 (.tmp 8) (.tmp 48) ?_ S5.o.R (foC zFo) ?_ ?_ ?_ ?_ ?_ ?_);(iterate 4 rfl);(exact dB _);rfl;(exact bK _));refine bodyPost_ret (dQ (fn:=Tryz.f135) rfl _ _ (w.heap.size+1+1) zFo rfl (Blk.row S5.o.R _)) rfl ?_;exact S5.o.err 2
    | true=>
     clear hd0;have e0:=D5.o.cell 0;have e1:=D5.o.cell 1;have hgd:w1.heap.size < w5.heap.size:=D5.o.lt;have FI:=Hd (show FiF w (w5.alloc (.cells (foC ⟨a0,b0,⟨#[]⟩,a0,b0,true,false,⟨#[]⟩⟩) 223)) A n c ds Am nm cm ms d i w1.heap.size w5.heap.size from ⟨S5.o.alloc _,⟨a0,b0,D5.o.alloc _⟩,⟨⟨a0,b0,⟨#[]⟩,a0,b0,true,false,⟨#[]⟩⟩,Blk.new w5 _ _,Nat.zero_le _,rfl⟩,hg1,hgd⟩);have PI:=Hd (PiF.own (gd:=w1.heap.size) (go:=w5.heap.size) (P5.o.alloc (.cells (foC ⟨a0,b0,⟨#[]⟩,a0,b0,true,false,⟨#[]⟩⟩) 223)) (fun q e=>by have:=P1L.o q e;omega) HSF.o).1;clear S5 D5 P5 P1L HSF;go_upto_block 0 with fail;clear e0 e1;generalize w5.alloc (.cells (foC ⟨a0,b0,⟨#[]⟩,a0,b0,true,false,⟨#[]⟩⟩) 223)=w6 at *;go_cut [] (fun wx=>FiF w wx A n c ds Am nm cm ms d i w1.heap.size w5.heap.size);case first=>
      go_wp2_with fail;go_loopw [10,15] (fun v ix wr=>∃ (A0:Option Addr) (c0:Nat) (L:List ByteArray) (k:Nat),v= .slice A0 L.length c0∧ix= .int .i64 k∧k≤8∧L.length≤200 * (k+1)∧Hid (FiF w wr A n c ds Am nm cm ms d i w1.heap.size w5.heap.size)∧Hid (PiF wr w1.heap.size w5.heap.size A0 c0 L)) (fun v ix _=>(9 - (intOf ix).toNat) * 10000+zF v);case atStart=>exact ⟨A1,c1,Lf,0,rfl,rfl,by omega,by have:=HLF.o;omega,FI,PI⟩
      case round=>
       clear FI PI;obtain ⟨A0,c0,L,k,rfl,rfl,hk8,hLk,HF,HQ⟩:=hrel;cases L with
       | nil=>
        go_wp2_with fail;go_meet;exact HF.o
       | cons x r=>
        obtain ⟨ad,rfl,hab,hcx⟩:=HQ.o.at_ 0 (by simp);have s0:wr.cell? ad=some (.string x):=nY (a:=ad) hcx;have hxs:=HQ.o.siz x (List.mem_cons_self ..);have hcap:=HQ.o.cap;have HT:=Hd HQ.o.tail;have HKL:=Hd (And.intro hk8 hLk);clear hcx hk8 hLk;rw [List.length_cons];rw [List.length_cons] at hcap;have d1:(0:Int) < ((r.length+1:Nat):Int):=(by omega);have d2:¬ r.length+1≤0:=(by omega);have d3:1≤r.length+1:=(by omega);have d4:(1:Int)≤((r.length+1:Nat):Int):=(by omega);have d5:0 < r.length+1:=(by omega);have d6:r.length+1≠0:=(by omega);have d7:¬ ((r.length+1:Nat):Int)≤0:=(by omega);go_upto_region 15 with fail;go_cut [10] (fun v wx=>wx=wr∧∃ (A' :Option Addr) (c' :Nat),v= .slice A' r.length c' ∧PiF wr w1.heap.size w5.heap.size A' c' r);case first=>
         by_cases hc1:c0=1;case pos=>
          have hr0:r= []:=List.eq_nil_of_length_eq_zero (by omega);go_wp2_with fail;go_meet;subst hr0;exact ⟨rfl,some ad,_,rfl,PiF.nil _ _ _ _ _ (fun a e=>by injection e with e;subst e;exact HQ.o.far _ rfl)⟩
         case neg=>
          go_wp2_with fail;go_meet;exact ⟨rfl,some (ad.add 1),c0 - 1,by first | rfl | simp,HT.o⟩
        case rest=>
         obtain ⟨rfl,A',c',rfl,hPI⟩:=hcut;have PI6:=Hd hPI;clear hPI HT s0 hcap d1 d2 d3 d4 d5 d6 d7 hab HQ;obtain ⟨xo,hO,hxo⟩:=HF.o.O;obtain ⟨ga,gb,hD⟩:=HF.o.D;have o3:=hO.cell 3;have o4:=hO.cell 4;have D6:=Hd hD;clear hD;go_upto_region 17 with ((with_reducible refine ae ?_ 44 (.tmp 13) (.tmp 61) ?_ D6.o #[.int .i64 xo.fd, .int .i64 xo.fi] ?_ ?_ ?_ ?_ ?_ ?_);(iterate 4 rfl);(exact dK _ _);rfl;(exact bU _ _));have FI7:=Hd (HF.o.dir xo.fd xo.fi);have PI7:=Hd (PI6.o.row (.inl rfl) #[.int .i64 xo.fd, .int .i64 xo.fi]);have D7:=Hd (D6.o.row #[.int .i64 xo.fd, .int .i64 xo.fi]);clear o3 o4 hO hxo HF PI6 D6;generalize xo.fd=a at *;generalize xo.fi=b at *;generalize wc.setRow w1.heap.size #[.int .i64 a, .int .i64 b]=w7 at *;have e0:=D7.o.cell 0;have e1:=D7.o.cell 1;have v0:=FI7.o.f.f.V.cell 0;have v1:=FI7.o.f.f.V.cell 1;go_wp2_with fail;clear v0 v1;clear e0 e1;refine (jG a b ds A n c HN.o w7 FI7.o.f.f.files).mono ?_;rintro e w8 ⟨rfl,hb⟩;have FI8:=Hd (FI7.o.grow hb);have PI8:=Hd (PI7.o.below hb);have D8:=Hd (D7.o.below hb);clear hb FI7 PI7 D7;cases hdd:bM (ds.map Dm.dv) a b with
         | false=>
          clear hdd;go_wp2_with ((with_reducible refine ae ?_ 223 (.tmp 8) (.tmp 67) ?_ FI8.o.f.R (foC zFo) ?_ ?_ ?_ ?_ ?_ ?_);(iterate 4 rfl);(exact dB _);rfl;(exact bK _));refine bodyPost_ret (dQ (fn:=Tryz.f135) rfl _ _ (w.heap.size+1+1) zFo rfl (Blk.row FI8.o.f.R _)) rfl ?_;exact FI8.o.f.err 20
         | true=>
          clear hdd;by_cases Hm:x.size≤12;case neg=>
           have q2:(12:Int) < (x.size:Int):=(by omega);go_wp2_with ((with_reducible refine ae ?_ 223 (.tmp 8) (.tmp 71) ?_ FI8.o.f.R (foC zFo) ?_ ?_ ?_ ?_ ?_ ?_);(iterate 4 rfl);(exact dB _);rfl;(exact bK _));refine bodyPost_ret (dQ (fn:=Tryz.f135) rfl _ _ (w.heap.size+1+1) zFo rfl (Blk.row FI8.o.f.R _)) rfl ?_;exact FI8.o.f.err 36
          case pos=>
           have q2:¬ (12:Int) < (x.size:Int):=(by omega);have KZ:=Hd Hm;clear Hm;cases hp2:(x.toList == [46,46]) with
           | true=>
            as_aux_lemma=>
             have hp1:(x.toList == [46])=false:=by
              have h9:x.toList= [46,46]:=(by simpa using hp2);rw [h9];decide
             go_upto_region 23 with fail;refine wp_region_held_drew (S:=(fun W=>Blk W w.heap.size 31 #[slV A n c,slV Am nm cm])) (by kernel_rfl) FI8.o.f.f.V (fun hHeld=>?_);have FI8:=Hd (FI8.o.grow (Below.refl w8.heap.size w8).drew);have PI8:=Hd (PI8.o.below (Below.refl w8.heap.size w8).drew);have D8:=Hd (D8.o.below (Below.refl w8.heap.size w8).drew);generalize w8.drew=w8 at *;refine tk hHeld 0 ?_ ?_ (tk hHeld 1 ?_ ?_ ?_);iterate 2
              rotate_left
              · intro W hSw;have v0:=hSw.cell 0;have v1:=hSw.cell 1;go_simp;try (with_reducible rfl)
             have e0:=D8.o.cell 0;have e1:=D8.o.cell 1;refine rdy1 2 (fun K hK=>?_);go_simp;refine hK.o _ _ FI8.o.f.f.V (fun hHeld=>?_);clear hK K e0 e1;refine rdy1 3 (fun K hK=>?_);go_simp;go_at_call 195;refine (rup a b ds A n c HN.o ms Am nm cm HNM.o HL.o HOK.o w8 FI8.o.f.f.files FI8.o.f.f.aR).mono ?_;rintro e w9 ⟨a2,b2,rfl,hb⟩;have FI9:=Hd (FI8.o.grow hb);have PI9:=Hd (PI8.o.below hb);have D9:=Hd (D8.o.below hb);clear hb FI8 PI8 D8;go_simp;refine hK.o _ _ FI9.o.f.f.V (fun hHeld=>?_);clear hK K;refine rdy1 4 (fun K hK=>?_);go_simp;go_at_call 194;refine (Dg a2 b2 A n c ms Am nm cm HNM.o HL.o w9 FI9.o.f.f.aR).mono ?_;rintro e w10 ⟨a3,b3,rfl,hb⟩;have K8:=Hd (FI9.o.grow hb);have MQ:=Hd (PI9.o.below hb);have D10:=Hd (D9.o.below hb);clear hb FI9 PI9 D9;go_simp;refine hK.o _ _ K8.o.f.f.V (fun hHeld=>?_);clear hK K;have g0:=D10.o.cell 0;have g1:=D10.o.cell 1;have f0:=D10.o.free 0;have f1:=D10.o.free 1;have hgx:w10.grownBy ((w10.setCell ⟨w1.heap.size,0,none⟩ (.int .i64 a3)).setCell ⟨w1.heap.size,1,none⟩ (.int .i64 b3)) (some w1.heap.size):=aF (p:=⟨w1.heap.size,1,none⟩) (aF (p:=⟨w1.heap.size,0,none⟩) (World.grownBy.refl w10 (some w1.heap.size)) (.inl rfl) _) (.inl rfl) _;have DX:=Hd (show Blk ((w10.setCell ⟨w1.heap.size,0,none⟩ (.int .i64 a3)).setCell ⟨w1.heap.size,1,none⟩ (.int .i64 b3)) w1.heap.size 44 #[.int .i64 a3, .int .i64 b3] from (D10.o.put 0 _).put 1 _);have FIX:=Hd (K8.o.NY hgx DX.o);have PIX:=Hd (MQ.o.only (.inl rfl) hgx);clear hgx MQ;refine rdy1 5 (fun K hK=>?_);go_simp;refine hK.o _ _ FIX.o.f.f.V (fun hHeld=>?_);clear hK K;clear g0 g1 f0 f1 D10 K8;refine wpAnyH_done (by kernel_rfl) ?_ _;have FI8:=FIX;have PI8:=PIX;have D8:=DX;clear FIX PIX DX;generalize ((w10.setCell ⟨w1.heap.size,0,none⟩ (.int .i64 a3)).setCell ⟨w1.heap.size,1,none⟩ (.int .i64 b3))=w8 at *;generalize a3=a at *;generalize b3=b at *;obtain ⟨xq,hO,_⟩:=FI8.o.O;have e0:=D8.o.cell 0;have e1:=D8.o.cell 1;have O8:=Hd hO;clear hO;have FIN:=Hd (FI8.o.o ⟨a,b,⟨#[]⟩,a,b,true,false,⟨#[]⟩⟩ ⟨Nat.zero_le _,rfl⟩);have PIN:=Hd (PI8.o.row (.inr rfl) (foC ⟨a,b,⟨#[]⟩,a,b,true,false,⟨#[]⟩⟩));go_wp2_with ((with_reducible refine ae ?_ 223 (.tmp 14) (.tmp 87) ?_ O8.o (foC ⟨a,b,⟨#[]⟩,a,b,true,false,⟨#[]⟩⟩) ?_ ?_ ?_ ?_ ?_ ?_);(iterate 4 rfl);(exact dB _);rfl;(exact bK _));clear e0 e1;(try dsimp only [Act.put]);go_roundw;case rel=>exact ⟨_,_,r,k,rfl,rfl,HKL.o.1,by have:=HKL.o.2;rw [List.length_cons] at this;omega,FIN,PIN⟩
             case measure=>simp [zF,intOf]
           | false=>
            cases hp1:(x.toList == [46]) with
            | true=>
             as_aux_lemma=>
              go_upto_region 24 with fail;obtain ⟨xq,hO,_⟩:=FI8.o.O;have e0:=D8.o.cell 0;have e1:=D8.o.cell 1;have O8:=Hd hO;clear hO;have FIN:=Hd (FI8.o.o ⟨a,b,⟨#[]⟩,a,b,true,false,⟨#[]⟩⟩ ⟨Nat.zero_le _,rfl⟩);have PIN:=Hd (PI8.o.row (.inr rfl) (foC ⟨a,b,⟨#[]⟩,a,b,true,false,⟨#[]⟩⟩));go_wp2_with ((with_reducible refine ae ?_ 223 (.tmp 14) (.tmp 87) ?_ O8.o (foC ⟨a,b,⟨#[]⟩,a,b,true,false,⟨#[]⟩⟩) ?_ ?_ ?_ ?_ ?_ ?_);(iterate 4 rfl);(exact dB _);rfl;(exact bK _));clear e0 e1;(try dsimp only [Act.put]);go_roundw;case rel=>exact ⟨_,_,r,k,rfl,rfl,HKL.o.1,by have:=HKL.o.2;rw [List.length_cons] at this;omega,FIN,PIN⟩
              case measure=>simp [zF,intOf]
            | false=>
             have e0:=D8.o.cell 0;have e1:=D8.o.cell 1;have v0:=FI8.o.f.f.V.cell 0;have v1:=FI8.o.f.f.V.cell 1;go_wp2_with fail;clear v0 v1;clear e0 e1;refine (fJ a b x ds A n c HN.o w8 FI8.o.f.f.files).mono ?_;rintro e w9 ⟨rfl,hb⟩;generalize cB (ds.map Dm.dv) a b x=rr;obtain ⟨ke,r1,r2⟩:=rr;have FI9:=Hd ((FI8.o.grow hb).alloc (.cells #[.int .i64 r1, .int .i64 r2] 44));have PI9:=Hd ((PI8.o.below hb).below ((Below.refl w9.heap.size w9).alloc (Nat.le_refl _) (.cells #[.int .i64 r1, .int .i64 r2] 44)));have D9:=Hd ((D8.o.below hb).alloc (.cells #[.int .i64 r1, .int .i64 r2] 44));have T9:=Hd (Blk.new w9 #[.int .i64 r1, .int .i64 r2] 44);have hgt:w5.heap.size < w9.heap.size:=(by obtain ⟨_,h9,_⟩:=(FI8.o.grow hb).O;exact h9.lt);clear hb FI8 PI8 D8;go_upto_region 26 with fail;generalize w9.alloc (.cells #[.int .i64 r1, .int .i64 r2] 44)=w10 at *;by_cases hke:ke=0;case neg=>
              have q3:=(aM hke).2;clear hke;by_cases hr0:0 < r.length;case pos=>
                have q4:(0:Int) < (r.length:Int):=(by omega);go_wp2_with ((with_reducible refine ae ?_ 223 (.tmp 8) (.tmp 106) ?_ FI9.o.f.R (foC zFo) ?_ ?_ ?_ ?_ ?_ ?_);(iterate 4 rfl);(exact dB _);rfl;(exact bK _));refine bodyPost_ret (dQ (fn:=Tryz.f135) rfl _ _ (w.heap.size+1+1) zFo rfl (Blk.row FI9.o.f.R _)) rfl ?_;exact FI9.o.f.err 2
              case neg=>
                have q4:¬ (0:Int) < (r.length:Int):=(by omega);go_wp2_with fail;refine (uO x (by have:=KZ.o;unfold maxLen;omega) w10).mono ?_;rintro e w11 ⟨rfl,rfl⟩;cases hnp:dS x with
                | false=>
                 clear hnp;go_wp2_with ((with_reducible refine ae ?_ 223 (.tmp 8) (.tmp 106) ?_ FI9.o.f.R (foC zFo) ?_ ?_ ?_ ?_ ?_ ?_);(iterate 4 rfl);(exact dB _);rfl;(exact bK _));refine bodyPost_ret (dQ (fn:=Tryz.f135) rfl _ _ (w.heap.size+1+1) zFo rfl (Blk.row FI9.o.f.R _)) rfl ?_;exact FI9.o.f.err 2
                | true=>
                 clear hnp;have e0:=D9.o.cell 0;have e1:=D9.o.cell 1;obtain ⟨xq,hO,_⟩:=FI9.o.O;have O9:=Hd hO;clear hO;have FIN:=Hd (FI9.o.o ⟨a,b,x,0,0,false,false,⟨#[]⟩⟩ ⟨KZ.o,rfl⟩);go_wp2_with ((with_reducible refine ae ?_ 223 (.tmp 14) (.tmp 109) ?_ O9.o (foC ⟨a,b,x,0,0,false,false,⟨#[]⟩⟩) ?_ ?_ ?_ ?_ ?_ ?_);(iterate 4 rfl);(exact dB _);rfl;(exact bK _));go_meet;exact FIN.o
             case pos=>
              have q3:=(bI hke).2;clear hke;have t0:=T9.o.cell 0;have t1:=T9.o.cell 1;have v0:=FI9.o.f.f.V.cell 0;have v1:=FI9.o.f.f.V.cell 1;go_wp2_with fail;clear v0 v1;clear t0 t1 q3;refine (xB r1 r2 ds A n c HN.o HOK.o.1 w10 FI9.o.f.f.files).mono ?_;rintro e w11 ⟨nd,A2,n2,c2,nb,rfl,htg,hb⟩;have HTG:=Hd htg;clear htg;have uD:=Hd ((FI9.o.grow hb).alloc (.cells (ndC nd (.slice A2 n2 c2)) 145));have EX:=Hd ((PI9.o.below hb).below ((Below.refl w11.heap.size w11).alloc (Nat.le_refl _) (.cells (ndC nd (.slice A2 n2 c2)) 145)));have D12:=Hd ((D9.o.below hb).alloc (.cells (ndC nd (.slice A2 n2 c2)) 145));have T12:=Hd ((T9.o.below hb).alloc (.cells (ndC nd (.slice A2 n2 c2)) 145));have N12:=Hd (Blk.new w11 (ndC nd (.slice A2 n2 c2)) 145);clear hb FI9 PI9 D9 T9;go_upto_region 31 with fail;generalize w11.alloc (.cells (ndC nd (.slice A2 n2 c2)) 145)=w12 at *;have n1:=N12.o.cell 1;go_cut [130] (fun v wx=>(∃ bb:Bool,v= .bool bb)∧w12=wx);case first=>
                by_cases hk3:nd.kind=3;case neg=>
                 have q3:=(aM hk3).1;go_wp2_with fail;go_meet;exact ⟨⟨_,rfl⟩,rfl⟩
                case pos=>
                 have q3:=(bI hk3).1;by_cases hr0:0 < r.length;case pos=>
                   have q4:(0:Int) < (r.length:Int):=(by omega);go_wp2_with fail;go_meet;exact ⟨⟨_,rfl⟩,rfl⟩
                 case neg=>
                   have q4:¬ (0:Int) < (r.length:Int):=(by omega);cases fw with
                   | true=>
                     go_wp2_with fail;go_meet;exact ⟨⟨_,rfl⟩,rfl⟩
                   | false=>
                     go_wp2_with fail;go_meet;exact ⟨⟨_,rfl⟩,rfl⟩
              case rest=>
              obtain ⟨⟨bb,rfl⟩,rfl⟩:=hcut;clear n1
              skip
              skip
              cases bb with
              | false=>
                as_aux_lemma=>
                 go_upto_region 40 with fail;clear N12;refine wp_region_held_drew (S:=(fun W=>Blk W w.heap.size 31 #[slV A n c,slV Am nm cm]∧Blk W w1.heap.size 44 #[.int .i64 a, .int .i64 b]∧Blk W w9.heap.size 44 #[.int .i64 r1, .int .i64 r2])) (by kernel_rfl) ⟨uD.o.f.f.V,D12.o,T12.o⟩ (fun hHeld=>?_);have uD:=Hd (uD.o.grow (Below.refl w12.heap.size w12).drew);have EX:=Hd (EX.o.below (Below.refl w12.heap.size w12).drew);have D12:=Hd (D12.o.below (Below.refl w12.heap.size w12).drew);have T12:=Hd (T12.o.below (Below.refl w12.heap.size w12).drew);generalize w12.drew=w12 at *;refine tk hHeld 0 ?_ ?_ (tk hHeld 1 ?_ ?_ (tk hHeld 2 ?_ ?_ (tk hHeld 3 ?_ ?_ ?_)));iterate 4
                   rotate_left
                   · intro W hSw;obtain ⟨z0,z1,z2⟩:=hSw;have v0:=z0.cell 0;have v1:=z0.cell 1;have e0:=z1.cell 0;have e1:=z1.cell 1;have t0:=z2.cell 0;have t1:=z2.cell 1;go_simp;try (with_reducible rfl)
                 refine rdy1 4 (fun K hK=>?_);go_simp;go_at_call 194;refine (Dg r1 r2 A n c ms Am nm cm HNM.o HL.o w12 uD.o.f.f.aR).mono ?_;rintro e w13 ⟨a3,b3,rfl,hb⟩;have uE:=Hd (uD.o.grow hb);have EY:=Hd (EX.o.below hb);have D13:=Hd (D12.o.below hb);have T13:=Hd (T12.o.below hb);clear hb uD EX D12 T12;go_simp;refine hK.o _ _ ⟨uE.o.f.f.V,D13.o,T13.o⟩ (fun hHeld=>?_);clear hK K;refine rdy1 5 (fun K hK=>?_);refine fT (by rfl) 223 _ (by rfl) (foC ⟨a,b,x,a3,b3,true,false,⟨#[]⟩⟩) ?_ ?_
                 · go_simp;exact zR a b a3 b3 x
                 refine hK.o _ _ ⟨uE.o.f.f.V,D13.o,T13.o⟩ (fun hHeld=>?_);clear hK K;obtain ⟨xq,hO,_⟩:=uE.o.O;have O13:=Hd hO;clear hO;have FIN:=Hd (uE.o.o ⟨a,b,x,a3,b3,true,false,⟨#[]⟩⟩ ⟨KZ.o,rfl⟩);have PIN:=Hd (EY.o.row (.inr rfl) (foC ⟨a,b,x,a3,b3,true,false,⟨#[]⟩⟩));have HGX:=Hd (aA w13 w5.heap.size (foC ⟨a,b,x,a3,b3,true,false,⟨#[]⟩⟩));have DN:=Hd (D13.o.grown HGX.o (fun e=>by injection e with e;omega));have TN:=Hd (T13.o.grown HGX.o (fun e=>by injection e with e;omega));refine rdy1 6 (fun K hK=>?_);refine ag (by rfl) 223 (.tmp 14) (.tmp 158) (by rfl) O13.o (foC ⟨a,b,x,a3,b3,true,false,⟨#[]⟩⟩) ?_ ?_ (dB _) rfl (bK _) ?_
                 · go_simp
                 · go_simp
                 refine hK.o _ _ ⟨FIN.o.f.f.V,DN.o,TN.o⟩ (fun hHeld=>?_);clear hK K DN TN uE EY D13 T13 O13;refine wpAnyH_done (by kernel_rfl) ?_ _;generalize w13.setRow w5.heap.size (foC ⟨a,b,x,a3,b3,true,false,⟨#[]⟩⟩)=w14 at *;go_simp;go_wp2_with fail;(try dsimp only [Act.put]);go_roundw;case rel=>exact ⟨_,_,r,k,rfl,rfl,HKL.o.1,by have:=HKL.o.2;rw [List.length_cons] at this;omega,FIN,PIN⟩
                 case measure=>simp [zF,intOf]
              | true=>
                as_aux_lemma=>
                 go_upto_region 32 with fail;by_cases hk9:(k:Int)=8;case pos=>
                   have q5:=(bI hk9).1;go_wp2_with ((with_reducible refine ae ?_ 223 (.tmp 8) (.tmp 133) ?_ uD.o.f.R (foC zFo) ?_ ?_ ?_ ?_ ?_ ?_);(iterate 4 rfl);(exact dB _);rfl;(exact bK _));refine bodyPost_ret (dQ (fn:=Tryz.f135) rfl _ _ (w.heap.size+1+1) zFo rfl (Blk.row uD.o.f.R _)) rfl ?_;exact uD.o.f.err 40
                 case neg=>
                   have q5:=(aM hk9).1;have HK7:=Hd (show k≤7 by have:=HKL.o.1;omega);clear hk9;have q7:=(bq HK7.o (by omega)).1;have q8:=(bq HK7.o (by omega)).2;have n6:=N12.o.cell 6;go_wp2_with fail;clear n6 q5 q7 q8;refine (wU nd.tg w12 (by have:=HTG.o;omega)).mono ?_;rintro e w13 ⟨v2,L2,ab2,sl2,rfl,hw2,hown2,hb⟩;have hsz2:=hw2.size;have K9:=nX hown2;obtain ⟨A3,c3,rfl,_⟩:=K9.at;have HL2:=Hd (show (L2.filter gJ).length≤129 from Nat.le_trans (List.length_filter_le _ _) (Nat.le_trans hsz2.1 (Nat.succ_le_succ HTG.o)));have HS2:=Hd (full_of hsz2.2 HTG.o);have uE:=Hd (uD.o.grow hb);have EY:=Hd (EX.o.below hb);have D13:=Hd (D12.o.below hb);have P13:=Hd K9;have Oq:=Hd (show w5.heap.size < w12.heap.size by obtain ⟨_,h9,_⟩:=uD.o.O;exact h9.lt);have P7:=Hd hb.size;generalize (L2.filter gJ)=Lg at *;clear hw2 hown2 hb hsz2 K9 uD EX D12 T12 N12;go_upto_if 143 with fail;go_cut [] (fun wx=>FiF w wx A n c ds Am nm cm ms d i w1.heap.size w5.heap.size∧PiF wx w1.heap.size w5.heap.size A' c' r∧(∃ x9 y9:Int,Blk wx w1.heap.size 44 #[.int .i64 x9, .int .i64 y9])∧ax rq wx w12.heap.size (.slice A3 Lg.length c3) Lg);case first=>
                     cases ab2 with
                     | true=>
                      have v0:=uE.o.f.f.V.cell 0;have v1:=uE.o.f.f.V.cell 1;go_wp2_with fail;clear v0 v1;refine (Gj A n c ms Am nm cm HNM.o HL.o w13 (uE.o.f.f.aR)).mono ?_;rintro e w14 ⟨x9,y9,rfl,hb⟩;have MR:=Hd (uE.o.grow hb);have D14:=Hd (D13.o.below hb);have P14:=Hd (P13.o.below hb);have Ot:=Hd (EY.o.below hb);clear hb;go_wp2_with ((with_reducible refine ae ?_ 44 (.tmp 13) (.tmp 145) ?_ D14.o #[.int .i64 x9, .int .i64 y9] ?_ ?_ ?_ ?_ ?_ ?_);(iterate 4 rfl);(exact dK _ _);rfl;(exact bU _ _));go_meet;have hgx:=aA w14 w1.heap.size #[.int .i64 x9, .int .i64 y9];exact ⟨MR.o.dir x9 y9,Ot.o.row (.inl rfl) _,⟨x9,y9,D14.o.row _⟩,P14.o.far hgx (fun q e r=>by injection r with r;have:=P13.o.ge q e;have:=MR.o.h2;have:=Oq.o;omega)⟩
                     | false=>
                      go_wp2_with fail;go_meet;exact ⟨uE.o,EY.o,⟨_,_,D13.o⟩,P13.o⟩
                   case rest=>
                     obtain ⟨hF,hQ,⟨x9,y9,hD⟩,hP⟩:=hcut;have La:=Hd hF;have MS:=Hd hQ;have D15:=Hd hD;have P15:=Hd hP;have Ou:=Hd (show w5.heap.size < wc.heap.size by obtain ⟨_,h9,_⟩:=hF.O;exact h9.lt);clear hF hQ hD hP uE EY D13 P13;go_wp2_with (refine aj rq rfl (.const (.slice none 0 0)) (.tmp 146) rfl wc.heap.size (.slice none 0 0) [] rfl (ax.nil _ _) wc.heap.size A3 Lg.length c3 Lg rfl rfl (aU P15.o) (by have:=HL2.o;simp;omega) (Nat.le_refl _) ?_);intro v4 w16 ho4 hg4 zD;have ho4:ax rq w16 wc.heap.size v4 Lg:=ho4;obtain ⟨A4,c4,rfl,_⟩:=ho4.at;have hb4:Below wc.heap.size wc w16:=(Below.refl _ wc).grown hg4 (Nat.le_refl _) (fun q e=>by cases e);have Lb:=Hd (MS.o.below hb4);have O16:=Hd ho4;have B16:=Hd hb4;clear ho4 hg4 zD hb4;go_wp2_with (refine aj rq rfl (.tmp 147) (.tmp 148) rfl wc.heap.size (.slice A4 Lg.length c4) Lg rfl O16.o w16.heap.size A' r.length c' r rfl rfl Lb.o.at_ (by have:=HL2.o;have h9:=HKL.o.2;have:=HKL.o.1;rw [List.length_cons] at h9;omega) B16.o.size ?_);intro v5 w17 ho5 hg5 Lc;have hb5:Below wc.heap.size wc w17:=B16.o.grown hg5 B16.o.size (fun q e=>O16.o.ge q e);obtain ⟨A5,c5,rfl,_⟩:=ho5.at;have MU:=Hd (La.o.grow hb5);have D17:=Hd (D15.o.below hb5);have Ov:=Hd (PiF.own (gd:=w1.heap.size) (go:=w5.heap.size) ho5 (fun q e=>by have:=ho5.ge q e;have:=Ou.o;have:=La.o.h2;omega) (fun y hy=>(List.mem_append.1 hy).elim (HS2.o y) (Lb.o.siz y))).1;have HLN:=Hd (show (Lg ++ r).length≤200 * (k+1+1) by have:=HL2.o;have h9:=HKL.o.2;rw [List.length_cons] at h9;rw [List.length_append];omega);clear ho5 hg5 Lc hb5 Lb O16 B16 La MS D15 P15;obtain ⟨xq,hO,_⟩:=MU.o.O;have e0:=D17.o.cell 0;have e1:=D17.o.cell 1;have O17:=Hd hO;clear hO;have FIN:=Hd (MU.o.o ⟨x9,y9,⟨#[]⟩,x9,y9,true,false,⟨#[]⟩⟩ ⟨Nat.zero_le _,rfl⟩);have PIN:=Hd (Ov.o.row (.inr rfl) (foC ⟨x9,y9,⟨#[]⟩,x9,y9,true,false,⟨#[]⟩⟩));go_wp2_with ((with_reducible refine ae ?_ 223 (.tmp 14) (.tmp 152) ?_ O17.o (foC ⟨x9,y9,⟨#[]⟩,x9,y9,true,false,⟨#[]⟩⟩) ?_ ?_ ?_ ?_ ?_ ?_);(iterate 4 rfl);(exact dB _);rfl;(exact bK _));clear e0 e1;(try dsimp only [Act.put]);go_roundw;case rel=>exact ⟨A5,c5,Lg ++ r,k+1,rfl,rfl,by have:=HK7.o;omega,HLN.o,FIN,PIN⟩
                     case measure=>exact xC k (k+1) _ _ rfl HK7.o (Nat.le_trans HLN.o (by have:=HK7.o;omega))
     case rest=>
      obtain ⟨⟨dd,di,nx,fd,fi,ex,s0,pa⟩,hO,hx⟩:=hcut.O;have FZ:=Hd hcut.f;have HLW:=Hd (And.intro hcut.h1 hcut.h2);have HNX:=Hd (show nx.size≤12 from hx.1);obtain rfl:pa=⟨#[]⟩:=hx.2;have OZ:=Hd hO;clear hcut hO hx;generalize wc=wz at *;go_upto_region 41 with fail;go_cut [171] (fun v wx=>(∃ bb:Bool,v= .bool bb)∧FdF w wx A n c ds Am nm cm ms d i∧Blk wx w5.heap.size 223 (foC ⟨dd,di,nx,fd,fi,ex,s0,⟨#[]⟩⟩));case first=>
       cases sl with
       | false=>
        go_wp2_with fail;go_meet;exact ⟨⟨_,rfl⟩,FZ.o,OZ.o⟩
       | true=>
        have c5:=OZ.o.cell 5;cases ex with
        | false=>
         go_wp2_with fail;go_meet;exact ⟨⟨_,rfl⟩,FZ.o,OZ.o⟩
        | true=>
         have c3:=OZ.o.cell 3;have c4:=OZ.o.cell 4;have v0:=FZ.o.f.V.cell 0;have v1:=FZ.o.f.V.cell 1;go_wp2_with fail;clear c3 c4 c5 v0 v1;refine (jG fd fi ds A n c HN.o wz FZ.o.f.files).mono ?_;rintro e w19 ⟨rfl,hb⟩;have FY:=Hd (FZ.o.grow hb);have OY:=Hd (OZ.o.below hb);clear hb;go_wp2_with fail;go_meet;exact ⟨⟨_,rfl⟩,FY.o,OY.o⟩
      case rest=>
      obtain ⟨⟨bb,rfl⟩,hF,hO⟩:=hcut;clear FZ OZ;have FZ:=Hd hF;have OZ:=Hd hO;clear hF hO;generalize wc=wz at *;cases bb with
      | true=>
       go_wp2_with ((with_reducible refine ae ?_ 223 (.tmp 8) (.tmp 172) ?_ FZ.o.R (foC zFo) ?_ ?_ ?_ ?_ ?_ ?_);(iterate 4 rfl);(exact dB _);rfl;(exact bK _));refine bodyPost_ret (dQ (fn:=Tryz.f135) rfl _ _ (w.heap.size+1+1) zFo rfl (Blk.row FZ.o.R _)) rfl ?_;exact FZ.o.err 20
      | false=>
       go_upto_region 43 with fail
       as_aux_lemma=>
        have c6:=OZ.o.cell 6;have f6:=OZ.o.free 6;have O20:=Hd (show Blk (wz.setCell ⟨w5.heap.size,6,none⟩ (.bool sl)) w5.heap.size 223 (foC ⟨dd,di,nx,fd,fi,ex,sl,⟨#[]⟩⟩) from OZ.o.put 6 (.bool sl));have F20:=Hd (FZ.o.only (by have:=HLW.o.1;have:=HLW.o.2;omega) (av wz w5.heap.size 6 (.bool sl)));go_upto_region 44 with fail;clear c6 f6;generalize (wz.setCell ⟨w5.heap.size,6,none⟩ (.bool sl))=w20 at *;have HSV:=Hd (show ∃ sv:Bool,sv=sl from ⟨_,rfl⟩);have c0:=O20.o.cell 0;have c1:=O20.o.cell 1;have v0:=F20.o.f.V.cell 0;have v1:=F20.o.f.V.cell 1;go_wp2_with fail;clear v0 v1 c0 c1;refine (tV dd di ds A n c HN.o ms Am nm cm HNM.o HL.o HOK.o w20 F20.o.f.files F20.o.f.aR).mono ?_;rintro e w21 ⟨s,ok,rfl,hs,hb⟩;have F21:=Hd (F20.o.grow hb);have O21:=Hd (O20.o.below hb);have HS:=Hd hs;clear hb hs F20 O20;cases ok with
        | false=>
         have c0:=O21.o.cell 0;have c1:=O21.o.cell 1;have c2:=O21.o.cell 2;have c3:=O21.o.cell 3;have c4:=O21.o.cell 4;have c5:=O21.o.cell 5;have c6:=O21.o.cell 6;have c7:=O21.o.cell 7;go_wp2_with ((with_reducible refine ae ?_ 223 (.tmp 8) (.tmp 193) ?_ F21.o.R (foC ⟨dd,di,nx,fd,fi,ex,sl,⟨#[]⟩⟩) ?_ ?_ ?_ ?_ ?_ ?_);(iterate 4 rfl);(exact dB _);rfl;(exact bK _));refine bodyPost_ret (dQ (fn:=Tryz.f135) rfl _ _ (w.heap.size+1+1) ⟨dd,di,nx,fd,fi,ex,sl,⟨#[]⟩⟩ rfl (Blk.row F21.o.R _)) rfl ?_;exact F21.o.fin ⟨dd,di,nx,fd,fi,ex,sl,⟨#[]⟩⟩ 0 HNX.o (Nat.zero_le _)
        | true=>
         have c7:=O21.o.cell 7;have f7:=O21.o.free 7;have O22:=Hd (show Blk (w21.setCell ⟨w5.heap.size,7,none⟩ (.string s)) w5.heap.size 223 (foC ⟨dd,di,nx,fd,fi,ex,sl,s⟩) from O21.o.put 7 (.string s));have F22:=Hd (F21.o.only (by have:=HLW.o.1;have:=HLW.o.2;omega) (av w21 w5.heap.size 7 (.string s)));go_upto_region 47 with fail;clear c7 f7 F21 O21;generalize (w21.setCell ⟨w5.heap.size,7,none⟩ (.string s))=w22 at *;have c2:=O22.o.cell 2;cases hne:nx.toList.isEmpty with
         | true=>
          have c0:=O22.o.cell 0;have c1:=O22.o.cell 1;have c2:=O22.o.cell 2;have c3:=O22.o.cell 3;have c4:=O22.o.cell 4;have c5:=O22.o.cell 5;have c6:=O22.o.cell 6;have c7:=O22.o.cell 7;go_wp2_with ((with_reducible refine ae ?_ 223 (.tmp 8) (.tmp 193) ?_ F22.o.R (foC ⟨dd,di,nx,fd,fi,ex,sl,s⟩) ?_ ?_ ?_ ?_ ?_ ?_);(iterate 4 rfl);(exact dB _);rfl;(exact bK _));refine bodyPost_ret (dQ (fn:=Tryz.f135) rfl _ _ (w.heap.size+1+1) ⟨dd,di,nx,fd,fi,ex,sl,s⟩ rfl (Blk.row F22.o.R _)) rfl ?_;exact F22.o.fin ⟨dd,di,nx,fd,fi,ex,sl,s⟩ 0 HNX.o (Nat.le_trans HS.o (by omega))
         | false=>
          go_wp2_with fail;refine (Bo s nx (by have:=HS.o;omega) (by have:=HNX.o;omega) w22).mono ?_;rintro e w23 ⟨rfl,rfl⟩;have c7:=O22.o.cell 7;have f7:=O22.o.free 7;have O24:=Hd (show Blk (w22.setCell ⟨w5.heap.size,7,none⟩ (.string (eX s nx))) w5.heap.size 223 (foC ⟨dd,di,nx,fd,fi,ex,sl,eX s nx⟩) from O22.o.put 7 (.string (eX s nx)));have F24:=Hd (F22.o.only (by have:=HLW.o.1;have:=HLW.o.2;omega) (av w22 w5.heap.size 7 (.string (eX s nx))));have HJ:=Hd (show (eX s nx).size≤640 by have:=mE s nx;have:=HS.o;have:=HNX.o;omega);go_upto_region 49 with fail;clear c2 c7 f7 F22 O22;generalize (w22.setCell ⟨w5.heap.size,7,none⟩ (.string (eX s nx)))=w24 at *;generalize eX s nx=sj at *;have c0:=O24.o.cell 0;have c1:=O24.o.cell 1;have c2:=O24.o.cell 2;have c3:=O24.o.cell 3;have c4:=O24.o.cell 4;have c5:=O24.o.cell 5;have c6:=O24.o.cell 6;have c7:=O24.o.cell 7;go_wp2_with ((with_reducible refine ae ?_ 223 (.tmp 8) (.tmp 193) ?_ F24.o.R (foC ⟨dd,di,nx,fd,fi,ex,sl,sj⟩) ?_ ?_ ?_ ?_ ?_ ?_);(iterate 4 rfl);(exact dB _);rfl;(exact bK _));refine bodyPost_ret (dQ (fn:=Tryz.f135) rfl _ _ (w.heap.size+1+1) ⟨dd,di,nx,fd,fi,ex,sl,sj⟩ rfl (Blk.row F24.o.R _)) rfl ?_;exact F24.o.fin ⟨dd,di,nx,fd,fi,ex,sl,sj⟩ 0 HNX.o HJ.o
end Go.Proofs.YtollifnnpihfdaaGreatDoor
