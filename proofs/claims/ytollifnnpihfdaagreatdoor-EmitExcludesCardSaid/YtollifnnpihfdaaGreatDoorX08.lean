import Derived.Test.YtollifnnpihfdaaGreatDoorX05
import Derived.Test.YtollifnnpihfdaaGreatDoorX07
import Derived.Lib.AtoiAllCases
set_option maxRecDepth 100000
set_option maxHeartbeats 64000000
set_option linter.all false
namespace Go.Proofs.YtollifnnpihfdaaGreatDoor
open Go.RowKit
theorem tZ (l:List En) (ino:Int) (k:Nat) (hk:k < l.length):kV (l.take (k+1)) ino=kV (l.take k) ino+(if l[k].ino == ino then 1 else 0):=by
 unfold kV;rw [List.take_succ_eq_append_getElem hk,List.countP_append];congr 1;simp [List.countP_cons]
theorem ug (l:List Nd) (ino:Int) (k:Nat) (hk:k < l.length):iM (l.take (k+1)) ino=iM (l.take k) ino+kV l[k].es ino:=by
 unfold iM;rw [List.take_succ_eq_append_getElem hk,List.map_append,List.sum_append];simp
theorem aL {n q:Nat} (h:q < n) (i:Value) (hi:i= .int .i64 ((q:Int)+1)):n - (intOf i).toNat < n - (intOf (.int .i64 (q:Int))).toNat:=by
 subst hi;simp [intOf];omega
theorem dE {q:Nat} (h:q≤100000000):wrap64 ((q:Int)+1)=(q:Int)+1∧IntKind.i64.wrap ((q:Int)+1)=(q:Int)+1:=⟨IntWalk.wrap64_in _ (by omega),IntWalk.i64_in _ (by omega)⟩
theorem aT (w:World) (cs ds:Array Value) (s t:TypeId):Below w.heap.size w ((w.alloc (.cells cs s)).alloc (.cells ds t)):=((Below.refl w.heap.size w).alloc (Nat.le_refl _) _).alloc (by simp) _
theorem Bn (dev ino:Int) (ds:List Dm) (A:Option Addr) (n c:Nat) (hn:n=ds.length) (w:World) (h:bZ w w.heap.size A ds):
  Calls Tryz.prog 261 #[fsV A n c,flV dev ino] w fun e w' =>e= .returned (.int .i64 (iw (ds.map Dm.dv) dev ino))∧Below w.heap.size w w' :=by
 have HN:=Hd hn;have B0:=Hd (aT w #[.slice A n c] #[.int .i64 dev, .int .i64 ino] 28 44);have F0:=Hd (h.below B0.o);have HI:=Hd (kv dev ino ds A n c hn _ F0.o);have HL:=Hd (show iw (ds.map Dm.dv) dev ino=match eZ (ds.map Dm.dv) dev with | none=>0 | some d=>match iQ d.ns ino with | none=>0 | some _=>(iM d.ns ino:Int) from rfl);have V0:=Hd ((Blk.new w #[.slice A n c] 28).alloc (.cells #[.int .i64 dev, .int .i64 ino] 44));have U0:=Hd (show Blk ((w.alloc (.cells #[.slice A n c] 28)).alloc (.cells #[.int .i64 dev, .int .i64 ino] 44)) (w.heap.size+1) 44 #[.int .i64 dev, .int .i64 ino] by
  have h:=Blk.new (w.alloc (.cells #[.slice A n c] 28)) #[.int .i64 dev, .int .i64 ino] 44;simpa using h)
 clear h hn;go_in;go_wp2_with fail;refine HI.o.mono ?_;rintro e w1 ⟨rfl,hb⟩;have B1:=Hd (B0.o.trans (hb.mono B0.o.size));have F1:=Hd (F0.o.below hb);have V1:=Hd (V0.o.below hb);have U1:=Hd (U0.o.below hb);clear hb HI B0 F0 V0 U0;cases hi:fe (ds.map Dm.dv) dev ino with
 | none=>
  have HR:=Hd (show iw (ds.map Dm.dv) dev ino=0 by
   rw [HL.o];unfold fe at hi;cases hd:eZ (ds.map Dm.dv) dev with
   | none=>rfl
   | some d=>rw [hd] at hi;have hi:iQ d.ns ino=none:=hi;simp only [hi])
  have i1:Em none < 0:=by decide
  clear hi;go_wp2_with fail;go_ret;exact ⟨by rw [HR.o];rfl,B1.o⟩
 | some k=>
  obtain ⟨j,hj,hk,rfl,hq⟩:=dQ hi;clear hq;have HR:=Hd (show iw (ds.map Dm.dv) (j:Int) ino=(iM (ds[j].xs.map (·.nd)) ino:Int) by
   rw [HL.o,dG (by omega) (by rw [Int.toNat_natCast];exact hj)];have hi:iQ (ds[j].xs.map (·.nd)) ino=some k:=by
    unfold fe at hi;rw [dG (by omega) (by rw [Int.toNat_natCast];exact hj)] at hi;exact hi
   have e:ds[Int.toNat (j:Int)].dv.ns=ds[j].xs.map (fun x=>x.nd):=rfl;simp only [e,hi])
  have j1:(j:Int) < (n:Int):=by rw [HN.o];omega
  have j2:(0:Int)≤(j:Int):=by omega
  have i1:Em (some k)=(k:Int):=rfl;have i2:¬ (k:Int) < 0:=by omega
  have HD:=Hd (F1.o.nodes ds[j] (List.getElem_mem hj));have HE:=Hd (F1.o.cu ds[j] (List.getElem_mem hj));obtain ⟨ad,rfl,hab,hcx⟩:=F1.o.at_ j hj;obtain ⟨s0,s1⟩:=bM (a:=ad.add (j * 2)) hcx;have v0:=V1.o.cell 0;have u0:=U1.o.cell 0;rw [i1];clear hcx hi i1 hk HL F1 V1;generalize ds[j]=d at *;have u1:=U1.o.cell 1;go_wp2_with fail;clear s0 s1 v0 u0;go_loopw [5,7] (fun v i wr=>∃ q t:Nat,q≤d.xs.length∧v= .int .i64 (iM ((d.xs.map (·.nd)).take q) ino:Nat)∧i= .int .i64 q∧wr=w1.drewN t∧iM ((d.xs.map (·.nd)).take q) ino≤1000 * q) (fun _ i _=>d.xs.length - (intOf i).toNat);case atStart=>exact ⟨0,0,Nat.zero_le _,rfl,rfl,rfl,Nat.le_refl _⟩
  case round=>
   generalize wr=ws at *;obtain ⟨q,t,hq,rfl,rfl,rfl,hle⟩:=hrel;have hlen:=HD.o.2;have WQ:=Hd (bg hq (by omega));by_cases hlt:q < d.xs.length;case neg=>
    have q1:¬ (q:Int) < (d.xs.length:Int):=(by omega);have HC:=Hd (show (d.xs.map (·.nd)).take q=d.xs.map (·.nd) from List.take_of_length_le (by simp;omega));go_wp2_with fail;go_ret;exact ⟨by rw [HR.o,HC.o];rfl,below_drewN B1.o _⟩
   case pos=>
    have q1:(q:Int) < (d.xs.length:Int):=(by omega);have q2:(0:Int)≤(q:Int):=(by omega);obtain ⟨bd,hbd,hbb,hcy⟩:=HD.o.1 q hlt;obtain ⟨t0,t1,t2,t3,t4,t5,t6,t7⟩:=dh (a:=bd.add (q * 8)) hcy;have HX:=Hd (HE.o d.xs[q] (List.getElem_mem hlt));have HST:=Hd (show iM ((d.xs.map (·.nd)).take (q+1)) ino=iM ((d.xs.map (·.nd)).take q) ino+kV d.xs[q].nd.es ino by rw [ug _ _ _ (by simpa using hlt)];simp);clear hcy t0 t1 t2 t3 t4 t5 t6;generalize d.xs[q]=x at *;rw [hbd];go_wp2_with fail;go_loopw [5,8] (fun v i wr=>∃ r t' :Nat,r≤x.nd.es.length∧v= .int .i64 (iM ((d.xs.map (·.nd)).take q) ino+kV (x.nd.es.take r) ino:Nat)∧i= .int .i64 r∧wr=w1.drewN t' ∧kV (x.nd.es.take r) ino≤r) (fun _ i _=>x.nd.es.length - (intOf i).toNat);case atStart=>exact ⟨0,t,Nat.zero_le _,rfl,rfl,rfl,Nat.le_refl _⟩
    case round=>
     obtain ⟨r,t',hr,rfl,rfl,rfl,hle2⟩:=hrel;have hes:=HX.o.2.1;have WR:=Hd (bg hr (by omega));by_cases hrl:r < x.nd.es.length;case neg=>
      have r1:¬ (r:Int) < (x.nd.es.length:Int):=(by omega);have HC:=Hd (show kV (x.nd.es.take r) ino=kV x.nd.es ino by rw [List.take_of_length_le (by omega)]);have hb1:iM ((d.xs.map (·.nd)).take (q+1)) ino≤1000 * (q+1):=(by rw [HST.o, ← HC.o];omega);have HB1:=Hd hb1;clear hb1 hle hle2 hlen hes;obtain ⟨wq1,wq2⟩:=WQ.o;go_wp2_with fail;go_roundw;case rel=>exact ⟨q+1,_,hlt,by rw [HST.o,HC.o],by go_num,rfl,HB1.o⟩
      case measure=>exact aL hlt _ rfl
     case pos=>
      have r1:(r:Int) < (x.nd.es.length:Int):=(by omega);have r2:(0:Int)≤(r:Int):=(by omega);obtain ⟨cd,hcd,hcb,hcz⟩:=HX.o.1 r hrl;obtain ⟨e0,e1⟩:=fT (a:=cd.add (r * 2)) hcz;have Il:=Hd (tZ x.nd.es ino r hrl);have WV:=Hd (dE (q:=iM ((d.xs.map (·.nd)).take q) ino+kV (x.nd.es.take r) ino) (by omega));clear hcz e0;generalize x.nd.es[r]=y at *;generalize hcc:iM ((d.xs.map (·.nd)).take q) ino+kV (x.nd.es.take r) ino=cc at *;have HCC:=Hd hcc;clear hcc;rw [hcd] at t7;cases hb:(y.ino == ino) with
      | true=>
       have HR2:=Hd (show iM ((d.xs.map (·.nd)).take q) ino+kV (x.nd.es.take (r+1)) ino=cc+1∧kV (x.nd.es.take (r+1)) ino≤r+1 by rw [Il.o,hb, ← HCC.o];simp;omega);have HV:=Hd (show Value.int .i64 ((cc:Int)+1)=Value.int .i64 ((iM ((d.xs.map (·.nd)).take q) ino+kV (x.nd.es.take (r+1)) ino:Nat):Int) by rw [HR2.o.1];rfl);have HW:=Hd (show Value.int .i64 ((r:Int)+1)=Value.int .i64 ((r+1:Nat):Int) from rfl);clear Il hle hle2 hlen hes;go_upto_region 11 with fail;go_quiet (fail);obtain ⟨wr1,wr2⟩:=WR.o;obtain ⟨wv1,wv2⟩:=WV.o;go_wp2_with fail;clear wr1 wr2 wv1 wv2;go_roundw;case rel=>
        refine ⟨r+1,t' +nq,hrl,HV.o,HW.o,?_,HR2.o.2⟩;rfl
       case measure=>exact aL hrl _ rfl
      | false=>
       have HR2:=Hd (show iM ((d.xs.map (·.nd)).take q) ino+kV (x.nd.es.take (r+1)) ino=cc∧kV (x.nd.es.take (r+1)) ino≤r+1 by rw [Il.o,hb, ← HCC.o];simp;omega);have HV:=Hd (show Value.int .i64 (cc:Int)=Value.int .i64 ((iM ((d.xs.map (·.nd)).take q) ino+kV (x.nd.es.take (r+1)) ino:Nat):Int) by rw [HR2.o.1]);have HW:=Hd (show Value.int .i64 ((r:Int)+1)=Value.int .i64 ((r+1:Nat):Int) from rfl);clear Il hle hle2 hlen hes;go_upto_region 11 with fail;go_quiet (fail);obtain ⟨wr1,wr2⟩:=WR.o;obtain ⟨wv1,wv2⟩:=WV.o;go_wp2_with fail;clear wr1 wr2 wv1 wv2;go_roundw;case rel=>
        refine ⟨r+1,t' +nq,hrl,HV.o,HW.o,?_,HR2.o.2⟩;rfl
       case measure=>exact aL hrl _ rfl
section
variable {w w' :World} {base:Nat} {v:Value} {ds:List Dm}
theorem aC.K7 {g n c:Nat} (h:aC w base (.slice (some ⟨g,0,none⟩) n c) ds) {j i:Nat} {u:Value} (hj:j < ds.length) {d' :Dm} (hi:i < 2) (hx:EDv.C d' =(EDv.C (ds[j])).set i u)
  (hd:ax ENd w base d'.sl d'.xs∧d'.xs.length≤1000) (hxs:∀ x∈d'.xs,ax EEn w base x.sl x.nd.es∧iP x.nd)
  (hn:∀ k (hk:k < ds.length),k≠j→∀ q,ds[k].sl.ownBlock=some q→d'.sl.ownBlock≠some q):aC (w.setCell ⟨g,j * 2+i,none⟩ u) base (.slice (some ⟨g,0,none⟩) n c) (ds.set j d'):=by
 have hgc:=av w g (j * 2+i) u;have hne:∀ {x:Nm},ax EEn w base x.sl x.nd.es→∀ q,x.sl.ownBlock=some q→some g≠some q:=fun {x} hx q e r=>by
  injection r with r;subst r;exact aB hx h.own (show (209:Nat)≠142 by decide) _ e rfl
 have hne2:∀ {d:Dm},ax ENd w base d.sl d.xs→∀ q,d.sl.ownBlock=some q→some g≠some q:=fun {d} hx q e r=>by
  injection r with r;subst r;exact aB hx h.own (show (145:Nat)≠142 by decide) _ e rfl
 refine h.Ja hj hgc (h.own.put hj (by show i < 2;exact hi) hx) ⟨hd.1.far hgc (fun q e r=>hne2 hd.1 q e r),hd.2⟩ (fun x hx' =>⟨(hxs x hx').1.far hgc (fun q e r=>hne (hxs x hx').1 q e r),(hxs x hx').2⟩) (fun k hk hkj q e=>⟨fun r=>hne2 (h.nodes _ (List.getElem_mem hk)).1 q e r,hn k hk hkj q e⟩) (fun d hd' x hx' q e r=>hne (h.cu d hd' x hx').1 q e r)
theorem aC.Mr (h:aC w base v ds) {j:Nat} (hj:j < ds.length) {d' :Dm} (hv:ax EDv w' base v (ds.set j d')) (hd:ax ENd w' base d'.sl d'.xs∧d'.xs.length≤1000) (hx:∀ x∈d'.xs,ax EEn w' base x.sl x.nd.es∧iP x.nd)
   (ho:∀ i (hi:i < ds.length),i≠j→ax ENd w' base ds[i].sl ds[i].xs) (he:∀ d∈ds,∀ x∈d.xs,ax EEn w' base x.sl x.nd.es)
   (hn:∀ i (hi:i < ds.length),i≠j→∀ g,ds[i].sl.ownBlock=some g→d'.sl.ownBlock≠some g):aC w' base v (ds.set j d'):=by
 have hin:∀ d∈ds.set j d',d=d' ∨∃ i,∃ hi:i < ds.length,i≠j∧d=ds[i]:=fun d hd=>by
   obtain ⟨i,hi,e⟩:=List.getElem_of_mem hd;rw [List.length_set] at hi;rw [List.getElem_set] at e;split at e
   · exact .inl e.symm
   · rename_i hne;exact .inr ⟨i,hi,fun e=>hne e.symm,e.symm⟩
 refine ⟨hv,by rw [List.length_set];exact h.few,fun d hd' =>?_,fun d hd' x hx' =>?_,?_⟩
 · rcases hin d hd' with rfl | ⟨i,hi,hne,rfl⟩
   · exact hd
   · exact ⟨ho i hi hne,(h.nodes _ (List.getElem_mem hi)).2⟩
 · rcases hin d hd' with rfl | ⟨i,hi,hne,rfl⟩
   · exact hx x hx'
   · exact ⟨he _ (List.getElem_mem hi) x hx',(h.cu _ (List.getElem_mem hi) x hx').2⟩
 · have ha:=List.pairwise_iff_getElem.1 h.apart;refine List.pairwise_iff_getElem.2 fun i k hi hk hik g hgi hgk=>?_;rw [List.length_set] at hi hk;rw [List.getElem_set] at hgi hgk;split at hgi
   · split at hgk
     · omega
     · rename_i h1 h2;exact hn k hk (fun e=>h2 e.symm) g hgk hgi
   · split at hgk
     · rename_i h1 h2;exact hn i hi (fun e=>h1 e.symm) g hgi hgk
     · exact ha i k hi hk hik g hgi hgk
theorem aC.addN {g n c:Nat} (h:aC w base (.slice (some ⟨g,0,none⟩) n c) ds) {j:Nat} (hj:j < ds.length) {d:Dm} (hdj:d=ds[j]) {x:Nm} {A9:Option Addr} {n9 c9:Nat} (hn9:n9=(d.xs ++ [x]).length)
   (ho9:ax ENd w' base (.slice A9 n9 c9) (d.xs ++ [x])) (hg9:w.grownBy w' d.sl.ownBlock) (hat:(Value.slice A9 n9 c9).ownBlock=d.sl.ownBlock∨(Value.slice A9 n9 c9).ownBlock=some w.heap.size)
   (hl:d.xs.length≤999) (hx:x.nd.es= []∧x.A=none∧x.c=0) (hsz:iP x.nd):
   aC (w'.setCell ⟨g,j * 2+1,none⟩ (.slice A9 n9 c9)) base (.slice (some ⟨g,0,none⟩) n c) (ds.set j ⟨d.nx,d.xs ++ [x],A9,c9⟩):=by
 subst hdj;subst hn9;have hd:=h.nodes _ (List.getElem_mem hj);have hgc:=av w' g (j * 2+1) (.slice A9 (ds[j].xs ++ [x]).length c9);have hv1:ax EDv w' base (.slice (some ⟨g,0,none⟩) n c) ds:=h.own.far hg9 fun k e r=>aB h.own hd.1 (show (142:Nat)≠145 by decide) k e r;have hv2:ax EDv (w'.setCell ⟨g,j * 2+1,none⟩ (.slice A9 (ds[j].xs ++ [x]).length c9)) base (.slice (some ⟨g,0,none⟩) n c) (ds.set j ⟨ds[j].nx,ds[j].xs ++ [x],A9,c9⟩):=hv1.put hj (by show 1 < 2;omega) rfl;have hne2:∀ {d:Dm},ax ENd w' base d.sl d.xs→ax ENd (w'.setCell ⟨g,j * 2+1,none⟩ (.slice A9 (ds[j].xs ++ [x]).length c9)) base d.sl d.xs:=fun {d} hx=>hx.far hgc fun q e r=>by
   injection r with r;subst r;exact aB hx hv1 (show (145:Nat)≠142 by decide) _ e rfl
 have hne1:∀ {y:Nm},ax EEn w base y.sl y.nd.es→ax EEn (w'.setCell ⟨g,j * 2+1,none⟩ (.slice A9 (ds[j].xs ++ [x]).length c9)) base y.sl y.nd.es:=fun {y} hy=>by
   have h1:=hy.far hg9 fun q e r=>aB hy hd.1 (show (209:Nat)≠145 by decide) q e r;exact h1.far hgc fun q e r=>by
     injection r with r;subst r;exact aB h1 hv1 (show (209:Nat)≠142 by decide) _ e rfl
 refine h.Mr hj hv2 ⟨hne2 (d:=⟨ds[j].nx,ds[j].xs ++ [x],A9,c9⟩) ho9,by show (ds[j].xs ++ [x]).length≤1000;rw [List.length_append,List.length_singleton];omega⟩ (fun y hy=>?_) (fun i hi hij=>hne2 ((h.nodes _ (List.getElem_mem hi)).1.far hg9 fun q e r=>h.other hi hj hij e r)) (fun d hdm y hy=>hne1 (h.cu d hdm y hy).1) (fun i hi hij q e r=>?_)
 · rcases List.mem_append.1 hy with hy | hy
   · exact ⟨hne1 (h.cu _ (List.getElem_mem hj) y hy).1,(h.cu _ (List.getElem_mem hj) y hy).2⟩
   · rw [List.mem_singleton.1 hy];obtain ⟨e1,e2,e3⟩:=hx;refine ⟨?_,hsz⟩;show ax EEn _ base (.slice x.A x.nd.es.length x.c) x.nd.es;rw [e1,e2,e3];exact ax.nil _ _
 · have r:(Value.slice A9 (ds[j].xs ++ [x]).length c9).ownBlock=some q:=r;rcases hat with h1 | h1
   · exact h.other hi hj hij e (by rw [← h1];exact r)
   · rw [h1] at r;injection r with r;have:=(h.nodes _ (List.getElem_mem hi)).1.lt q e;omega
end
structure Chg where
 dd:Int
 di:Int
 nm:ByteArray
 od:Int
 oi:Int
 nd:Int
 ni:Int
theorem Tryz.Bo:(Tryz.prog.info? 283).map (fun i=>(i.zero,i.size,i.bytes))=some (some (.agg #[.int .i64 0, .int .i64 0, .string ⟨#[]⟩, .int .i64 0, .int .i64 0, .int .i64 0, .int .i64 0]),7,64):=by kernel_rfl
abbrev chC (x:Chg):Array Value:=#[.int .i64 x.dd, .int .i64 x.di, .string x.nm, .int .i64 x.od, .int .i64 x.oi, .int .i64 x.nd, .int .i64 x.ni]
def kY:El Chg where
 C x:= [.int .i64 x.dd, .int .i64 x.di, .string x.nm, .int .i64 x.od, .int .i64 x.oi, .int .i64 x.nd, .int .i64 x.ni]
 e:=283
 sl:=55
 sz:=7
 bs:=64
 len _:=rfl
 one x u hu:=by simp at hu;rcases hu with rfl | rfl | rfl | rfl | rfl | rfl | rfl <;> rfl
 pos:=by omega
 small:=by omega
 hu:=Tryz.underlying55
 info:=by
  obtain ⟨i0,h1,h2,h3,h4⟩:=info_parts Tryz.Bo;exact ⟨i0,_,h1,h2,h3,h4,rfl⟩
theorem uh {α:Type} (E:El α) (w:World) (base:Nat) (cs:Array Value) (x:α) (h:cs.toList=E.C x) (hb:base≤w.heap.size):ax E (w.alloc (.cells cs E.e)) base (.slice (some ⟨w.heap.size,0,none⟩) 1 1) [x]:=
 ⟨by simp [E.len], .inr ⟨w.heap.size,1,cs,rfl,hb,heap_alloc_new w _,Nat.le_refl _,by unfold maxLen;omega,by
  have:cs.size=(E.C x).length:=by rw [← h];simp
  rw [this,E.len];simp,by simp [h];exact List.take_of_length_le (by rw [E.len];exact Nat.le_refl _)⟩⟩
structure DrS (ws wr:World) (xs:List Nm) (t:Int) (q:Nat) (v:Value):Prop where
 low:Below ws.heap.size ws wr
 o:∃ (A:Option Addr) (c:Nat) (L:List Nm),v= .slice A L.length c∧ax ENd wr ws.heap.size v L∧L=(xs.take q).filter (fun x=> !(x.nd.ino == t))
theorem drop_take {xs:List Nm} {t:Int} {q:Nat} (hq:q < xs.length):(xs.take (q+1)).filter (fun x=> !(x.nd.ino == t))=(xs.take q).filter (fun x=> !(x.nd.ino == t)) ++ (if xs[q].nd.ino == t then [] else [xs[q]]):=by
 rw [List.take_succ_eq_append_getElem hq,List.filter_append];congr 1;cases h:xs[q].nd.ino == t <;> simp [h]
theorem Bp (xs:List Nm) (t:Int):(xs.filter (fun x=> !(x.nd.ino == t))).map (·.nd)=(xs.map (·.nd)).filter (fun n=> !(n.ino == t)):=by
 rw [List.filter_map];rfl
theorem Ey (j:Nat) (t:Int) (ds:List Dm) (A:Option Addr) (n c:Nat) (hn:n=ds.length) (hj:j < ds.length) (base:Nat) (w:World) (h:aC w base (.slice A n c) ds) (hbase:base≤w.heap.size):
  Calls Tryz.prog 230 #[fsV A n c,flV (j:Int) t] w fun e w' =>∃ ds' :List Dm,e= .returned (.tuple #[])∧aC w' base (.slice A n c) ds' ∧ds'.map Dm.dv=kW (ds.map Dm.dv) j t∧ds'.length=ds.length∧Below base w w' ∧∃ row,w.grownBy w' row∧∀ q,row=some q→(Value.slice A n c).ownBlock=some q∨∃ d∈ds,d.sl.ownBlock=some q:=by
 have HN:=Hd hn;have HB:=Hd hbase;have B0:=Hd (aT w #[.slice A n c] #[.int .i64 (j:Int), .int .i64 t] 28 44);have F0:=Hd (h.below B0.o);obtain ⟨A',c',eA,hat⟩:=F0.o.at;injection eA with eA eN eC;subst eA;clear eC eN c';have HL:=Hd (Bn (j:Int) t ds A n c hn _ hat);have V0:=Hd ((Blk.new w #[.slice A n c] 28).alloc (.cells #[.int .i64 (j:Int), .int .i64 t] 44));have U0:=Hd (show Blk ((w.alloc (.cells #[.slice A n c] 28)).alloc (.cells #[.int .i64 (j:Int), .int .i64 t] 44)) (w.heap.size+1) 44 #[.int .i64 (j:Int), .int .i64 t] by
  have h:=Blk.new (w.alloc (.cells #[.slice A n c] 28)) #[.int .i64 (j:Int), .int .i64 t] 44;simpa using h)
 have HD:=Hd (show kW (ds.map Dm.dv) (j:Int) t=if 0 < iw (ds.map Dm.dv) (j:Int) t then ds.map Dm.dv else lI (ds.map Dm.dv) j (fun d=> { d with ns:=d.ns.filter (fun n=> !(n.ino == t)) }) from rfl);have HOLD:=Hd (show ∀ g,g < base→g < w.heap.size from fun g hg=>by omega);clear hn hat h hbase;go_in;go_wp2_with fail;generalize (w.alloc (.cells #[.slice A n c] 28)).alloc (.cells #[.int .i64 (j:Int), .int .i64 t] 44)=w0 at *;refine HL.o.mono ?_;rintro e w1 ⟨rfl,hb⟩;have B1:=Hd (B0.o.trans (hb.mono B0.o.size));have F1:=Hd (F0.o.below hb);have V1:=Hd (V0.o.below hb);have U1:=Hd (U0.o.below hb);clear hb HL B0 F0 V0 U0;by_cases hc:0 < iw (ds.map Dm.dv) (j:Int) t;case pos=>
  have HR:=Hd (HD.o.trans (if_pos hc));go_wp2_with fail;refine bodyPost_ret (results_none rfl _ _ _) rfl ?_;exact ⟨ds,rfl,F1.o,HR.o.symm,rfl,B1.o.mono HB.o,none,bG (World.grownBy.refl w none) B1.o,fun q e=>by cases e⟩
 case neg=>
  have HR:=Hd (HD.o.trans (if_neg hc));have HC:=Hd hc;have hc2:¬ iw (ds.map Dm.dv) (j:Int) t > 0:=hc;clear HD;have j1:(j:Int) < (n:Int):=by rw [HN.o];omega
  have j2:(0:Int)≤(j:Int):=by omega
  obtain ⟨g,hg0,hg1,hg2,hg4⟩:=aX F1.o.own (Nat.lt_of_le_of_lt (Nat.zero_le j) hj);clear hg4;subst hg0;have HD1:=Hd (F1.o.nodes ds[j] (List.getElem_mem hj));obtain ⟨ad,e0,hab,hcx⟩:=aR F1.o.own j hj;injection e0 with e0;subst e0;obtain ⟨s0,s1⟩:=bM (a:=(⟨g,0,none⟩:Addr).add (j * 2)) hcx;rw [bO] at s1;replace s1:w1.cell? ⟨g,j * 2+1,none⟩=some (.slice ds[j].A ds[j].xs.length ds[j].c):=s1;clear s0;have v0:=V1.o.cell 0;have u0:=U1.o.cell 0;clear hcx hc;obtain ⟨d,hd⟩:∃ d,d=ds[j]:=⟨_,rfl⟩;have HDJ:=Hd hd;rw [← hd] at HD1 s1;clear hd;go_wp2_with fail;clear v0 u0;have S0:=Hd (show DrS w1 w1 d.xs t 0 (.slice none 0 0) from ⟨Below.refl _ _,none,0, [],rfl,ax.nil _ _,rfl⟩);have HS1:=Hd s1;clear s1;go_loopw [4,6] (fun v i wr=>∃ q:Nat,q≤d.xs.length∧i= .int .i64 q∧Hid (DrS w1 wr d.xs t q v)) (fun _ i _=>d.xs.length - (intOf i).toNat);case atStart=>exact ⟨0,Nat.zero_le _,rfl,S0⟩
  case round=>
   clear S0;obtain ⟨q,hq,rfl,HS⟩:=hrel;obtain ⟨Av,cv,L,rfl,hvo,hL⟩:=HS.o.o;have hlen:=HD1.o.2;have WQ:=Hd (bg hq (by omega));have HLL:=Hd (show L.length≤1000 by rw [hL];exact Nat.le_trans (List.length_filter_le _ _) (by rw [List.length_take];omega));by_cases hlt:q < d.xs.length;case pos=>
    have q1:(q:Int) < (d.xs.length:Int):=(by omega);have q2:(0:Int)≤(q:Int):=(by omega);obtain ⟨bd,hbd,hbb,hcy⟩:=aR HD1.o.1 q hlt;have HCY:=Hd (show ∀ k,k < 8→wr.cell? ((bd.add (q * 8)).add k)=(ENd.C d.xs[q])[k]? from fun k hk=>by
     rw [← hcy k hk];exact HS.o.low.cell (by rw [ak,ak];exact hbb))
    have HTK:=Hd (drop_take (t:=t) hlt);rw [← hL] at HTK;obtain ⟨t0,t1,t2,t3,t4,t5,t6,t7⟩:=dh (a:=bd.add (q * 8)) HCY.o;have u1:=(U1.o.below HS.o.low).cell 1;have VO:=Hd hvo;have hgw:w1.heap.size≤wr.heap.size:=HS.o.low.size;clear hvo hL hlen hcy;generalize d.xs[q]=x at *;rw [hbd];cases hb:(x.nd.ino == t) with
    | true=>
     have HN:=Hd (show DrS w1 wr d.xs t (q+1) (.slice Av L.length cv) from ⟨HS.o.low,Av,cv,L,rfl,VO.o,by rw [HTK.o,hb];simp⟩);have hb2:(x.nd.ino != t)=false:=(by rw [bne,hb];rfl);clear HTK hb;go_upto_region 7 with fail;go_quiet (fail);obtain ⟨wq1,wq2⟩:=WQ.o;go_wp2_with fail;clear wq1 wq2;go_roundw;case rel=>exact ⟨q+1,hlt,rfl,Hd ⟨below_drewN HN.o.low _,HN.o.o⟩⟩
     case measure=>exact aL hlt _ rfl
    | false=>
     have hb2:(x.nd.ino != t)=true:=(by rw [bne,hb];rfl);have Ms:=Hd (show ((d.xs.take (q+1)).filter (fun x=> !(x.nd.ino == t)))=L ++ [x] by rw [HTK.o,hb];rfl);clear HTK hb;go_upto_region 7 with fail;go_quiet (fail);have sI:=Hd (below_drewN HS.o.low nq);have VO2:=Hd (show ax ENd (wr.drewN nq) w1.heap.size (.slice Av L.length cv) L from VO.o);have Mv:w1.heap.size≤(wr.drewN nq).heap.size:=hgw;go_upto_region 8 with fail;obtain ⟨t0,t1,t2,t3,t4,t5,t6,t7⟩:=show (wr.drewN nq).cell? (bd.add (q * 8))=some (.int .i64 x.nd.ino)∧_∧_∧_∧_∧_∧_∧_ from dh (w:=wr.drewN nq) (x:=x) (a:=bd.add (q * 8)) HCY.o;generalize wr.drewN nq=w3 at *;have RW:=Hd (aI ENd w3 (ndC x.nd (.slice x.A x.nd.es.length x.c)) 145 x rfl (Nat.lt_succ_self w3.heap.size));have VO3:=Hd (VO2.o.alloc (.cells (ndC x.nd (.slice x.A x.nd.es.length x.c)) 145));have Ez:=Hd (sI.o.alloc sI.o.size (.cells (ndC x.nd (.slice x.A x.nd.es.length x.c)) 145));go_wp2_with (at_builtin;refine aj ENd rfl (.tmp 32) (.tmp 37) rfl w1.heap.size (.slice Av L.length cv) L rfl VO3.o (w3.heap.size+1) (some ⟨w3.heap.size,0,none⟩) 1 1 [x] rfl rfl RW.o (by have:=HLL.o;simp;omega) (by simp;omega) ?_);intro v9 w9 ho9 hg9 pQ;obtain ⟨A9,c9,e9,_⟩:=ho9.at;rw [show (L ++ [x]).length=L.length+1 by simp] at e9;subst e9;have HN9:=Hd (show DrS w1 w9 d.xs t (q+1) (.slice A9 (L.length+1) c9) from ⟨Ez.o.grown hg9 Ez.o.size (fun k e=>VO3.o.ge k e),A9,c9,L ++ [x],by simp,ho9,Ms.o.symm⟩);clear ho9 hg9 pQ;obtain ⟨wq1,wq2⟩:=WQ.o;go_wp2_with fail;clear wq1 wq2;go_roundw;case rel=>exact ⟨q+1,hlt,rfl,HN9⟩
     case measure=>exact aL hlt _ rfl
   case neg=>
    have q1:¬ (q:Int) < (d.xs.length:Int):=(by omega);have hL2:L=d.xs.filter (fun x=> !(x.nd.ino == t)):=(by rw [hL,List.take_of_length_le (by omega)]);have hlow:=HS.o.low;have F2:=F1.o.below hlow;have hVo:=hvo;have v0:=(V1.o.below hlow).cell 0;have u0:=(U1.o.below hlow).cell 0;have s1:=(hlow.cell (p:=⟨g,j * 2+1,none⟩) hg2).trans HS1.o;have sf:=F2.own.free (j * 2+1);have hgv:∀ q,(Value.slice Av L.length cv).ownBlock=some q→w1.heap.size≤q:=fun q e=>hvo.ge q e;have hFS:=F2.K7 (j:=j) (i:=1) (u:= .slice Av L.length cv) (d' :=⟨d.nx,L,Av,cv⟩) hj (by omega) (by rw [← HDJ.o];rfl) ⟨hvo.low (Nat.le_trans (by have:=HB.o;omega) (Nat.le_of_lt (Nat.lt_of_le_of_lt hg1 hg2))),HLL.o⟩
     (fun x hx=>by
      rw [hL2] at hx;exact F2.cu ds[j] (List.getElem_mem hj) x (by rw [← HDJ.o];exact (List.mem_filter.1 hx).1))
     (fun k hk hkj q e r=>by
      have h1:=(F1.o.nodes ds[k] (List.getElem_mem hk)).1.lt q e;have h2:=hgv q r;omega)
    have HFS:=Hd hFS;have HON:=Hd (bG (bG (World.grownBy.refl w (some g)) B1.o) hlow);have HLW:=Hd ((B1.o.trans (hlow.mono B1.o.size)).mono HB.o);have HL2:=Hd (show (ds.set j (⟨d.nx,L,Av,cv⟩:Dm)).map Dm.dv=lI (ds.map Dm.dv) j (fun d=> { d with ns:=d.ns.filter (fun n=> !(n.ino == t)) }) from jh ds j hj _ _ (by
     rw [← HDJ.o,hL2];show (⟨d.nx,(d.xs.filter (fun x=> !(x.nd.ino == t))).map (·.nd)⟩:Dv)=⟨d.nx,(d.xs.map (·.nd)).filter (fun n=> !(n.ino == t))⟩;rw [Bp]))
    clear hFS hVo hvo hL hL2 hlow F2 hlen hgv;go_wp2_with fail;refine bodyPost_end (results_none rfl _ _ _) rfl ?_;exact ⟨rfl,_,HFS.o,HL2.o.trans HR.o.symm,by rw [List.length_set],HLW.o.setCell (p:=⟨g,j * 2+1,none⟩) hg1 _,some g,aF HON.o (.inl rfl) _,fun q e=> .inl (by injection e with e;subst e;rfl)⟩
theorem FOk.new {n:Nat} (h1:1≤n) (h3:n≤3):FOk (List.replicate n ⟨2, [⟨1,2,493,0,0,1,⟨#[]⟩, []⟩]⟩):=by
 refine ⟨by simpa using h1,by simpa using h3,fun d hd=>?_⟩;rw [(List.mem_replicate.1 hd).2];have hm:∀ {n:Nd},n∈ [(⟨1,2,493,0,0,1,⟨#[]⟩, []⟩:Nd)]→n=⟨1,2,493,0,0,1,⟨#[]⟩, []⟩:=fun h=>List.mem_singleton.1 h;refine ⟨by decide,by decide,by decide,⟨_,_,rfl,rfl,rfl⟩,by decide,?_,?_,?_,?_,?_,?_⟩
 · intro n hn;rw [hm hn];decide
 · intro n hn;rw [hm hn];decide
 · intro n hn;rw [hm hn];exact ⟨by decide,by decide,fun e he=>by cases he⟩
 · intro n hn _ p hp e he;rw [hm hp] at he;cases he
 · intro n hn _ h1;rw [hm hn] at h1;exact absurd rfl h1
 · intro n hn _;rw [hm hn];exact ⟨0, .root⟩
structure Mt where
 dev:Int
 od:Int
 oi:Int
def onF (ms:List Mt) (dev:Int):Option (Int×Int):=(ms.find? (fun m=>m.dev == dev)).map (fun m=>(m.od,m.oi))
def fq (ms:List Mt) (dev:Int):Bool:=(onF ms dev).isSome || dev == 0
def xR (ms:List Mt) (d i:Int):Option Int:=(ms.find? (fun m=>m.od == d && m.oi == i)).map (·.dev)
inductive MOk (f:List Dv):List Mt→Prop
 | nil:MOk f []
 | app {ms:List Mt} {m:Mt} :MOk f ms→1≤m.dev→m.dev < f.length→fq ms m.dev=false→fq ms m.od=true→bK f m.od m.oi=true→MOk f (ms ++ [m])
theorem mM (ms:List Mt) (m:Mt) (dev:Int):onF (ms ++ [m]) dev=(onF ms dev).or (if m.dev == dev then some (m.od,m.oi) else none):=by
 unfold onF;rw [List.find?_append];cases ms.find? (fun m=>m.dev == dev) with
 | some x=>rfl
 | none=>
  rw [Option.none_or,Option.map_none,Option.none_or,List.find?_cons];cases m.dev == dev <;> rfl
theorem MOk.zero {f:List Dv} {ms:List Mt} (h:MOk f ms):onF ms 0=none:=by
 induction h with
 | nil=>rfl
 | @app ms m _ h1 _ _ _ _ ih=>
  rw [mM,ih];have:(m.dev == 0)=false:=by simp;omega
  rw [this];rfl
theorem MOk.len {f:List Dv} {ms:List Mt} (h:MOk f ms):(ms.map (·.dev)).Nodup∧∀ m∈ms,1≤m.dev∧m.dev < f.length:=by
 induction h with
 | nil=>exact ⟨by simp,fun _ h=>by cases h⟩
 | @app ms m _ h1 h2 h3 _ _ ih=>
  refine ⟨?_,fun x hx=>?_⟩
  · rw [List.map_append,List.nodup_append];refine ⟨ih.1,by simp,fun a ha b hb=>?_⟩;have hb:b=m.dev:=(by simpa using hb);obtain ⟨x,hx,e⟩:=List.mem_map.1 ha;intro e2;unfold fq onF at h3;rw [Bool.or_eq_false_iff] at h3;have h4:=h3.1;rw [Option.isSome_map] at h4;have:=List.find?_eq_none.1 (Option.isSome_eq_false_iff.1 h4 |> Option.isNone_iff_eq_none.1) x hx;rw [show x.dev=a from e,e2,hb] at this;simp at this
  · rcases List.mem_append.1 hx with hx | hx
    · exact ih.2 x hx
    · rw [List.mem_singleton.1 hx];exact ⟨h1,h2⟩
theorem MOk.few {f:List Dv} {ms:List Mt} (h:MOk f ms) (hf:f.length≤3):ms.length≤2:=by
 obtain ⟨h1,h2⟩:=h.len;have:=jm h1 (M:= [1,2]) (fun x hx=>by
  obtain ⟨m,hm,e⟩:=List.mem_map.1 hx;have:=h2 m hm;rw [show m.dev=x from e] at this;have:x=1∨x=2:=by omega
  simpa using this)
 simpa using this
theorem MOk.Jf {f:List Dv} {ms:List Mt} (h:MOk f ms):∀ m∈ms,bK f m.od m.oi=true:=by
 induction h with
 | nil=>intro m hm;cases hm
 | app _ _ _ _ _ h5 ih=>
  intro x hx;rcases List.mem_append.1 hx with hx | hx
  · exact ih x hx
  · rw [List.mem_singleton.1 hx];exact h5
theorem MOk.files {f f' :List Dv} {ms:List Mt} (h:MOk f ms) (hl:f'.length=f.length) (hd:∀ m∈ms,bK f' m.od m.oi=true):MOk f' ms:=by
 induction h with
 | nil=>exact .nil
 | app _ h1 h2 h3 h4 _ ih=>
  exact .app (ih fun m hm=>hd m (List.mem_append_left _ hm)) h1 (by rw [hl];exact h2) h3 h4 (hd _ (List.mem_append_right _ (List.mem_singleton.2 rfl)))
theorem iW (ms:List Mt) (m:Mt) (dev:Int):fq (ms ++ [m]) dev=(fq ms dev || m.dev == dev):=by
 unfold fq;rw [mM];cases onF ms dev <;> cases m.dev == dev <;> cases dev == 0 <;> rfl
theorem MOk.remove {f:List Dv} {ms:List Mt} {dev:Int} (h:MOk f ms) (hno:∀ m∈ms,m.od≠dev):MOk f (ms.filter (fun m=> !(m.dev == dev)))∧∀ x,x≠dev→fq (ms.filter (fun m=> !(m.dev == dev))) x=fq ms x:=by
 induction h with
 | nil=>exact ⟨.nil,fun _ _=>rfl⟩
 | @app ms m _ h1 h2 h3 h4 h5 ih=>
  obtain ⟨i1,i2⟩:=ih fun m hm=>hno m (List.mem_append_left _ hm);have hod:m.od≠dev:=hno m (List.mem_append_right _ (List.mem_singleton.2 rfl));rw [List.filter_append];cases hm:m.dev == dev with
  | true=>
   have e: [m].filter (fun m=> !(m.dev == dev))= []:=(by simp [hm]);rw [e,List.append_nil];refine ⟨i1,fun x hx=>?_⟩;rw [i2 x hx,iW];have:(m.dev == x)=false:=by
    have h9:m.dev=dev:=(by simpa using hm);rw [h9];simpa using fun e=>hx e.symm
   rw [this,Bool.or_false]
  | false=>
   have e: [m].filter (fun m=> !(m.dev == dev))= [m]:=(by simp [hm]);have hmd:m.dev≠dev:=(by simpa using hm);rw [e];refine ⟨.app i1 h1 h2 (by rw [i2 _ hmd];exact h3) (by rw [i2 _ hod];exact h4) h5,fun x hx=>?_⟩;rw [iW,iW,i2 x hx]
def dY (f:List Dv) (dev ino:Int):ByteArray:=
 match (match aD f dev (upF f dev ino) with | some p=>p.es.find? (fun e:En=>e.ino == ino) | none=>none) with
 | some e=>e.nm
 | none=>⟨#[]⟩
theorem FOk.root {f:List Dv} (h:FOk f) {dev:Int} {d:Dv} (hd:eZ f dev=some d):bK f dev 1=true:=by
 have hok:=h.2.2 d (bz hd);obtain ⟨n,r,e,e1,e2⟩:=hok.root;have hn:n∈d.ns:=by rw [e];exact List.mem_cons_self ..
 have:=gZ hd hok.uniq hn;rw [e1] at this;unfold bK;rw [this];simpa using e2
theorem jZ {f:List Dv} {dev i:Int} (h:bK f dev i=true):∃ d n,eZ f dev=some d∧n∈d.ns∧n.ino=i∧n.kind=2∧aD f dev i=some n:=by
 obtain ⟨n,hn,hk⟩:=jY h;obtain ⟨d,hd,hm,hi⟩:=aG hn;exact ⟨d,n,hd,hm,hi,hk,hn⟩
def SOk (f:List Dv) (ms:List Mt):Prop:=FOk f∧MOk f ms
theorem jw {f:List Dv} (h:FOk f) (dev ino:Int):(dY f dev ino).size≤12:=by
 unfold dY;split
 · rename_i e he;split at he
   · rename_i p hp;obtain ⟨d,hd,hm,_⟩:=aG hp;have hok:=h.2.2 d (bz hd);have:=((hok.cu p hm).2.2 e (List.mem_of_find?_eq_some he)).2.2;unfold dR at this;simp only [Bool.and_eq_true,decide_eq_true_eq] at this;exact this.1.1.1.2
   · cases he
 · decide
def kZ (T:Int→Prop) (d d' :Dv):Prop:=∀ n∈d.ns,n.kind=2→¬ T n.ino→∃ m∈d'.ns,m.ino=n.ino∧m.kind=2
theorem kZ.trans {T:Int→Prop} {a b c:Dv} (h:kZ T a b) (k:kZ T b c):kZ T a c:=fun n hn hk ht=>by
 obtain ⟨m,hm,e1,e2⟩:=h n hn hk ht;obtain ⟨r,hr,e3,e4⟩:=k m hm e2 (by rw [e1];exact ht);exact ⟨r,hr,e3.trans e1,e4⟩
theorem kE (T:Int→Prop) (d:Dv) (i:Int) (g:Nd→Nd) (hg:∀ n,(g n).ino=n.ino∧(g n).kind=n.kind):kZ T d { d with ns:=dM d.ns i g } :=fun n hn hk _=>by
 refine ⟨_,dn.2 ⟨n,hn,rfl⟩,?_⟩;split
 · exact ⟨(hg n).1,by rw [(hg n).2];exact hk⟩
 · exact ⟨rfl,hk⟩
theorem dZ (T:Int→Prop) (d:Dv) (i:Int) (nm:ByteArray) (new:Int):kZ T d (opE d i nm new):=kE T d i _ fun _=>⟨rfl,rfl⟩
theorem oo (d:Dv) (t:Int):kZ (fun j=>j=t) d (opD d t):=fun n hn hk ht=>by
 unfold opD;split
 · exact ⟨n,hn,rfl,hk⟩
 · exact ⟨n,List.mem_filter.2 ⟨hn,by simpa using ht⟩,rfl,hk⟩
theorem rO (T:Int→Prop) (d:Dv) (x:Nd) (nx:Int):kZ T d ⟨nx,d.ns ++ [x]⟩:=fun n hn hk _=>⟨n,List.mem_append_left _ hn,rfl,hk⟩
def lg (dev:Int) (T:Int→Prop) (f f' :List Dv):Prop:=f'.length=f.length∧∀ a b,bK f a b=true→¬ (a=dev∧T b)→bK f' a b=true
theorem lg.refl (dev:Int) (T:Int→Prop) (f:List Dv):lg dev T f f:=⟨rfl,fun _ _ h _=>h⟩
theorem fG {T:Int→Prop} {f:List Dv} {dev:Int} {d d' :Dv} (hd:eZ f dev=some d) (hk:kZ T d d') (hu:(d'.ns.map (·.ino)).Nodup):lg dev T f (f.set dev.toNat d'):=by
 refine ⟨by rw [List.length_set],fun a b h hne=>?_⟩;obtain ⟨e,n,hde,hn,hi,hkn,_⟩:=jZ h;by_cases ha:a=dev
 · subst ha;rw [hd] at hde;cases hde;obtain ⟨m,hm,e1,e2⟩:=hk n hn hkn (fun ht=>hne ⟨rfl,by rw [← hi];exact ht⟩);have:=gZ (bA hd d') hu hm;rw [e1,hi] at this;unfold bK;rw [this];simpa using e2
 · have e1:eZ (f.set dev.toNat d') a=eZ f a:=by
    have h0:=(jq hd).1;have h1:=(jq hde).1;unfold eZ;rw [if_neg (by omega),if_neg (by omega),List.getElem?_set];rw [if_neg (by omega)]
   have e2:aD (f.set dev.toNat d') a b=aD f a b:=(by unfold aD;rw [e1]);unfold bK at h ⊢;rw [e2];exact h
theorem xO.keep {f f' :List Dv} {dev ino:Int} {nm:ByteArray} {n:Nd} (h:FOk f) (hm:xO f dev ino nm n f') (T:Int→Prop):lg dev T f f' :=by
 have h9:=h.make hm;obtain ⟨hp,htg,hl,hfu,d,hd,hlen,hnx,rfl⟩:=hm;obtain ⟨p,hpn,hpk,hnm⟩:=bC hp;obtain ⟨d2,hd2,hpm,hpi⟩:=aG hpn;rw [hd] at hd2;cases hd2;have hok:=h.2.2 d (bz hd);have hu:((d.ns ++ [il d n ino]).map (·.ino)).Nodup:=by
  rw [List.map_append,List.nodup_append];refine ⟨hok.uniq,by simp,fun a ha b hb=>?_⟩;obtain ⟨m,hm,e1⟩:=List.mem_map.1 ha;have hb:b=d.nx:=by simpa [il] using hb
  have:=(hok.rng m hm).2;rw [hb, ← e1];show m.ino≠d.nx;omega
 rw [dS hd,bW (bA hd _) hu (List.mem_append_left _ hpm) hpi,List.set_set];exact fG hd ((rO T d _ _).trans (dZ T _ _ _ _)) (bS hu)
theorem xP.keep {f f' :List Dv} {dev ino gN lN:Int} {nm:ByteArray} (h:FOk f) (hm:xP f dev ino nm gN lN f') (T:Int→Prop):lg dev T f f' :=by
 obtain ⟨hp,hl,hfu,rfl,_,rfl⟩:=hm;obtain ⟨p,hpn,hpk,hnm⟩:=bC hp;obtain ⟨d,hd,hpm,hpi⟩:=aG hpn;have hok:=h.2.2 d (bz hd);rw [bW hd hok.uniq hpm hpi];exact fG hd (dZ T _ _ _ _) (bS hok.uniq)
theorem kC.keep {f f' :List Dv} {dev ino t:Int} {nm:ByteArray} (h:FOk f) (hm:kC f dev ino nm t f'):lg dev (fun j=>j=t) f f' :=by
 obtain ⟨hp,hl,he,rfl⟩:=hm;obtain ⟨p,hpn,hpk,hnm⟩:=bC hp;obtain ⟨d,hd,hpm,hpi⟩:=aG hpn;have hok:=h.2.2 d (bz hd);rw [bW hd hok.uniq hpm hpi,gM (bA hd _),List.set_set];exact fG hd ((dZ _ _ _ _ _).trans (oo _ _)) (mJ (bS hok.uniq))
theorem xy.keep {f f' :List Dv} {dev ino mode uid gid:Int} (h:FOk f) (hm:xy f dev ino mode uid gid f') (T:Int→Prop):lg dev T f f' :=by
 obtain ⟨k,hk,rfl⟩:=hm;cases hd:eZ f dev with
 | none=>unfold fe at hk;rw [hd] at hk;cases hk
 | some d=>
  have hk' :iQ d.ns ino=some k:=by unfold fe at hk;rw [hd] at hk;exact hk
  obtain ⟨hkl,hki⟩:=iE hk';have hok:=h.2.2 d (bz hd);rw [dS hd,iV hok.uniq hkl hki];refine fG hd (kE T d _ _ fun _=>⟨rfl,rfl⟩) ?_;rw [gX (h:=kT mode uid gid) (fun _=>rfl)];exact hok.uniq
theorem kD.keep {f f' :List Dv} {dev i k t:Int} {nm nm2:ByteArray} (h:FOk f) (hm:kD f dev i nm k nm2 t f'):lg dev (fun j=>cB f dev k nm2=(0,dev,j)∧j≠t) f f' :=by
 obtain ⟨hp,hp2,hl,hbe,rfl | ⟨o,ho,f1,hf1,hf'⟩⟩:=hm
 · exact lg.refl _ _ _
 obtain ⟨p,hpn,hpk,hnm⟩:=bC hp;obtain ⟨q,hqn,hqk,Ik⟩:=bC hp2;obtain ⟨d,hd,hpm,hpi⟩:=aG hpn;obtain ⟨d2,hd2,hqm,hqi⟩:=aG hqn;rw [hd] at hd2;cases hd2;have hok:=h.2.2 d (bz hd);obtain ⟨q',hq',q1,_⟩:=fV (i:=i) (nm:=nm) (new:=0) hqm;have h1:iD f dev i nm 0=f.set dev.toNat (opE d i nm 0):=bW hd hok.uniq hpm hpi nm 0;have h2:iD (iD f dev i nm 0) dev k nm2 t=f.set dev.toNat (opE (opE d i nm 0) k nm2 t):=by
   rw [h1,bW (bA hd _) (bS hok.uniq) hq' (by rw [q1,hqi]),List.set_set]
 have h3:f1=f.set dev.toNat (opO (opE (opE d i nm 0) k nm2 t) o):=by
   rw [hf1];cases o with
   | none=>exact h2
   | some y=>show kW _ _ _=_;rw [h2,gM (bA hd _),List.set_set];rfl
 have hu3:((opO (opE (opE d i nm 0) k nm2 t) o).ns.map (·.ino)).Nodup:=by
   cases o with
   | none=>exact bS (bS hok.uniq)
   | some y=>exact mJ (bS (bS hok.uniq))
 have hk3:kZ (fun j=>cB f dev k nm2=(0,dev,j)∧j≠t) d (opO (opE (opE d i nm 0) k nm2 t) o):=by
   cases o with
   | none=>exact (dZ _ _ _ _ _).trans (dZ _ _ _ _ _)
   | some y=>
    refine ((dZ _ _ _ _ _).trans (dZ _ _ _ _ _)).trans fun n hn hkn ht=>oo _ y n hn hkn fun e=>ht ?_;rw [e];exact ⟨ho.1,ho.2.1⟩
 split at hf'
 · obtain ⟨r,hr,hf'⟩:=hf';have hd3:eZ f1 dev=some (opO (opE (opE d i nm 0) k nm2 t) o):=(by rw [h3];exact bA hd _);have hr' :iQ (opO (opE (opE d i nm 0) k nm2 t) o).ns t=some r:=(by unfold fe at hr;rw [hd3] at hr;exact hr);obtain ⟨hrl,hri⟩:=iE hr';rw [hf',dS hd3,iV hu3 hrl hri,h3,List.set_set];refine fG hd (hk3.trans (kE _ _ _ _ fun _=>⟨rfl,rfl⟩)) ?_;rw [gX (h:=mI k) (fun _=>rfl)];exact hu3
 · rw [hf',h3];exact fG hd hk3 hu3
theorem SOk.files {f f' :List Dv} {ms:List Mt} (h:SOk f ms) (hf:FOk f') {dev:Int} {T:Int→Prop} (hk:lg dev T f f') (hT:∀ m∈ms,m.od=dev→¬ T m.oi):SOk f' ms:=
 ⟨hf,h.2.files hk.1 fun m hm=>hk.2 _ _ (h.2.Jf m hm) fun e=>hT m hm e.1 e.2⟩
inductive lh (f:List Dv) (ms:List Mt):Nat→Int→Int→List ByteArray→Prop
 | top:onF ms 0=none→bK f 0 1=true→lh f ms 1 0 1 []
 | over {h:Nat} {dev a b:Int} {L:List ByteArray} :bK f dev 1=true→dev≠0→onF ms dev=some (a,b)→lh f ms h a b L→lh f ms (h+1) dev 1 L
 | step {h:Nat} {dev ino:Int} {n:Nd} {L:List ByteArray} :aD f dev ino=some n→n.kind=2→ino≠1→fq ms dev=true→lh f ms h dev n.par L→lh f ms (h+1) dev ino (L ++ [dY f dev ino])
def uo (f:List Dv) (dev:Int):Nat:=match eZ f dev with | some d=>d.ns.length | none=>0
theorem lh.mono {f:List Dv} {ms:List Mt} {m:Mt} (hm:fq ms m.dev=false) {k:Nat} {dev ino:Int} {L:List ByteArray} (h:lh f ms k dev ino L):lh f (ms ++ [m]) k dev ino L:=by
 have h0:∀ x,fq ms x=true→onF (ms ++ [m]) x=onF ms x:=fun x hx=>by
  rw [mM];have:(m.dev == x)=false:=by
   cases hq:m.dev == x with
   | false=>rfl
   | true=>
    have e:m.dev=x:=(by simpa using hq);rw [e,hx] at hm;cases hm
  rw [this];cases onF ms x <;> rfl
 induction h with
 | top h1 h2=>exact .top (by rw [h0 0 (by unfold fq;simp)];exact h1) h2
 | over h1 hz h2 _ ih=>exact .over h1 hz (by rw [h0 _ (by unfold fq;rw [h2];rfl)];exact h2) ih
 | step h1 h2 h3 h4 _ ih=>exact .step h1 h2 h3 (by rw [iW,h4];rfl) ih
theorem rP {f:List Dv} {ms:List Mt} {dev:Int} {d:Dv} (hd:eZ f dev=some d) (hu:(d.ns.map (·.ino)).Nodup) (hm:fq ms dev=true) {h:Nat} {L0:List ByteArray} (h0:lh f ms h dev 1 L0) {k:Nat} {i:Int} (hk:fA d.ns k i):∃ L,lh f ms (h+k) dev i L∧L.length=L0.length+k:=by
 induction hk with
 | root=>exact ⟨L0,h0,rfl⟩
 | @up n k hn hk h1 _ ih=>
  obtain ⟨L,hL,hl⟩:=ih;exact ⟨_, .step (gZ hd hu hn) hk h1 hm hL,by rw [List.length_append,hl];rfl⟩
theorem MOk.EB {f:List Dv} (hf:FOk f) {ms:List Mt} (h:MOk f ms):∀ {dev ino:Int},fq ms dev=true→bK f dev ino=true→∃ L k,lh f ms k dev ino L∧L.length≤15 * (ms.length+1)∧k≤uo f 0+(ms.map (fun m=>uo f m.dev)).sum:=by
 have hgo:∀ {ms:List Mt} {dev ino:Int} {h:Nat} {L0:List ByteArray},fq ms dev=true→lh f ms (h+1) dev 1 L0→bK f dev ino=true→∃ L k,lh f ms k dev ino L∧L.length≤L0.length+15∧k≤h+uo f dev:=fun {ms dev ino h L0} hm h0 hd=>by
  obtain ⟨d,n,hdd,hn,rfl,hk,_⟩:=jZ hd;have hok:=hf.2.2 d (bz hdd);obtain ⟨k,hk'⟩:=hok.reach n hn hk;obtain ⟨L,h1,h2⟩:=rP hdd hok.uniq hm h0 hk';have h3:=qF hok.uniq hok.Et hk';have h4:=hok.few;have h5:uo f dev=d.ns.length:=by unfold uo;rw [hdd]
  exact ⟨L,_,h1,by omega,by omega⟩
 induction h with
 | nil=>
  intro dev ino hm hd;have:dev=0:=by
   have:(dev == 0)=true:=hm;simpa using this
  subst this;obtain ⟨d,_,hdd,_⟩:=jZ hd;obtain ⟨L,k,h1,h2,h3⟩:=hgo (h:=0) (L0:= []) hm (.top rfl (hf.root hdd)) hd;exact ⟨L,k,h1,by simpa using h2,by simpa using h3⟩
 | @app ms m hms h1 h2 h3 h4 h5 ih=>
  intro dev ino hm hd;rw [List.length_append,List.length_singleton,List.map_append,List.sum_append];cases ho:fq ms dev with
  | true=>
   obtain ⟨L,k,h6,h7,h8⟩:=ih ho hd;exact ⟨L,k,h6.mono h3,by omega,by omega⟩
  | false=>
   have e:m.dev=dev:=by
    rw [iW,ho,Bool.false_or] at hm;simpa using hm
   obtain ⟨L,k,h6,h7,h8⟩:=ih h4 h5;obtain ⟨d,_,hdd,_⟩:=jZ hd;have hon:onF (ms ++ [m]) dev=some (m.od,m.oi):=by
    rw [mM,e];have:onF ms dev=none:=by
     unfold fq at ho;rw [Bool.or_eq_false_iff] at ho;exact Option.isNone_iff_eq_none.1 (Option.isSome_eq_false_iff.1 ho.1)
    rw [this];simp
   obtain ⟨L2,k2,h9,h10,h11⟩:=hgo (ino:=ino) hm (.over (hf.root hdd) (by omega) hon (h6.mono h3)) hd;refine ⟨L2,k2,h9,by omega,?_⟩;have e2:(List.map (fun m=>uo f m.dev) [m]).sum=uo f dev:=(by simp [e]);omega
theorem uw {g:Int→Nat} :∀ {L M:List Int},L.Nodup→(∀ x∈L,x∈M)→(L.map g).sum≤(M.map g).sum
 | [],_,_,_=>Nat.zero_le _
 | a :: L,M,h,hs=>by
  rw [List.nodup_cons] at h;have ha:=hs a (List.mem_cons_self ..);have h2:∀ x∈L,x∈M.erase a:=fun x hx=>(List.mem_erase_of_ne (fun e=>h.1 (by rw [← e];exact hx))).2 (hs x (List.mem_cons_of_mem _ hx));have h3:=uw (g:=g) h.2 h2;have h4:(M.map g).sum=g a+((M.erase a).map g).sum:=by
   have hp:=(List.perm_cons_erase ha).map g;have:=hp.sum_nat;rw [this,List.map_cons,List.sum_cons]
  rw [List.map_cons,List.sum_cons,h4];omega
def xz (f:List Dv):Nat:=(f.map (fun d=>d.ns.length)).sum
theorem Br (f:List Dv):xz f=(((List.range f.length).map Int.ofNat).map (uo f)).sum:=by
 unfold xz;rw [List.map_map];congr 1;apply List.ext_getElem
 · simp
 · intro i h1 h2;simp only [List.length_map,List.length_range] at h1 h2;rw [List.getElem_map,List.getElem_map,List.getElem_range];show _=uo f (Int.ofNat i);unfold uo eZ;rw [if_neg (by simp)];have:(Int.ofNat i).toNat=i:=rfl;rw [this,List.getElem?_eq_getElem h1]
theorem SOk.EB {f:List Dv} {ms:List Mt} (h:SOk f ms) {dev ino:Int} (hm:fq ms dev=true) (hd:bK f dev ino=true):∃ L k,lh f ms k dev ino L∧L.length≤45∧k≤xz f:=by
 obtain ⟨L,k,h1,h2,h3⟩:=h.2.EB h.1 hm hd;have h4:=h.2.few h.1.2.1;obtain ⟨h5,h6⟩:=h.2.len;refine ⟨L,k,h1,by omega,Nat.le_trans h3 ?_⟩;rw [Br];have:=uw (g:=uo f) (L:=0 :: ms.map (·.dev)) (M:=(List.range f.length).map Int.ofNat) (List.nodup_cons.2 ⟨fun hm0=>by
  obtain ⟨m,hmm,e⟩:=List.mem_map.1 hm0;have:=(h6 m hmm).1;omega,h5⟩) (fun x hx=>by
  rcases List.mem_cons.1 hx with rfl | hx
  · exact List.mem_map.2 ⟨0,List.mem_range.2 h.1.1,rfl⟩
  · obtain ⟨m,hmm,e⟩:=List.mem_map.1 hx;have:=h6 m hmm;exact List.mem_map.2 ⟨x.toNat,List.mem_range.2 (by omega),by show ((x.toNat:Nat):Int)=x;omega⟩)
 rw [List.map_cons,List.sum_cons,List.map_map] at this;exact this
def eQ (d n:ByteArray):ByteArray:=if (decide (0 < d.size) && (d.data.toList.getLast? == some 47))=true then d ++ n else d ++ ⟨#[47]⟩ ++ n
theorem lS (d n:ByteArray):(eQ d n).size≤d.size+1+n.size:=by
 unfold eQ;split
 · rw [ByteArray.size_append];omega
 · rw [ByteArray.size_append,ByteArray.size_append];have:(⟨#[47]⟩:ByteArray).size=1:=rfl;omega
def iF (L:List ByteArray):ByteArray:=L.foldl eQ ⟨#[47]⟩
theorem lT (L:List ByteArray) (x:ByteArray):iF (L ++ [x])=eQ (iF L) x:=by
 unfold iF;rw [List.foldl_append];rfl
theorem ek:∀ (L:List ByteArray) (d:ByteArray),(∀ x∈L,x.size≤12)→(L.foldl eQ d).size≤d.size+13 * L.length
 | [],d,_=>by simp
 | a :: L,d,h=>by
  have h1:=ek L (eQ d a) (fun x hx=>h x (List.mem_cons_of_mem _ hx));have h2:=lS d a;have h3:=h a (List.mem_cons_self ..);rw [List.foldl_cons,List.length_cons];omega
theorem jy {L:List ByteArray} (h:∀ x∈L,x.size≤12) (hl:L.length≤45):(iF L).size≤586:=by
 have:=ek L ⟨#[47]⟩ h;have e:(⟨#[47]⟩:ByteArray).size=1:=rfl;unfold iF;omega
theorem lh.names {f:List Dv} (hf:FOk f) {ms:List Mt} {k:Nat} {dev ino:Int} {L:List ByteArray} (h:lh f ms k dev ino L):∀ x∈L,x.size≤12:=by
 induction h with
 | top=>intro x hx;cases hx
 | over _ _ _ _ ih=>exact ih
 | step _ _ _ _ _ ih=>
  intro x hx;rcases List.mem_append.1 hx with hx | hx
  · exact ih x hx
  · rw [List.mem_singleton.1 hx];exact jw hf _ _
def iY:Nd:=⟨1,2,493,0,0,1,⟨#[]⟩, []⟩
def EU:Dv:=⟨2, [iY]⟩
theorem mP {fn:Func} {i j:Nat} (h:fn.results=#[.cell i 28, .tmp j]) (tmps:Array Value) (w:World) (g:Nat) (v:Value) (hp:tmps.getD i undef= .pointer (some ⟨g,0,none⟩)) (hg:Blk w g 28 #[v]):
  (results fn tmps).run Tryz.prog w= .ok (.tuple #[.agg #[v],tmps.getD j undef]) w:=by
 have hp' :tmps[i]?.getD undef= .pointer (some ⟨g,0,none⟩):=by simpa using hp
 simp [results,h,hp',asAddr,run_loadVar_row w g 28 28 #[v] (0,0) _ hg Tryz.underlying28 rfl (bQ v)]
def BO (n:Nat) (w:World) (e:Ending) (w' :World):Prop:=
 ∃ (v:Value) (ds:List Dm),e= .returned (.tuple #[.agg #[v], .int .i64 0])∧aC w' w.heap.size v ds∧ds.map Dm.dv=List.replicate n EU∧Below w.heap.size w w'
structure NwS (w wr:World) (j:Nat):Prop where
 low:Below w.heap.size w wr
 res:Blk wr w.heap.size 28 #[.slice none 0 0]
 o:∃ (v:Value) (es:List Dm),Blk wr (w.heap.size+1) 28 #[v]∧aC wr (w.heap.size+1+1) v es∧es.map Dm.dv=List.replicate j EU
theorem JJ (n:Nat) (h1:1≤n) (h3:n≤3) (w:World):Calls Tryz.prog 79 #[.int .i64 (n:Int)] w (BO n w):=by
 have i1:¬ (n:Int) < 1:=by omega
 have i2:¬ (3:Int) < (n:Int):=by omega
 have hs1:(w.alloc (.cells #[.slice none 0 0] 28)).heap.size=w.heap.size+1:=by simp
 have S0:=Hd (show NwS w ((w.alloc (.cells #[.slice none 0 0] 28)).alloc (.cells #[.slice none 0 0] 28)) 0 from
  ⟨((Below.refl w.heap.size w).alloc (Nat.le_refl _) _).alloc (by rw [hs1];omega) _,(Blk.new w #[.slice none 0 0] 28).alloc _, .slice none 0 0, [],by
   have:=Blk.new (w.alloc (.cells #[.slice none 0 0] 28)) #[.slice none 0 0] 28;rw [hs1] at this;exact this,aC.nil _ _,rfl⟩)
 clear hs1;go_in;go_wp2_with fail;generalize (w.alloc (.cells #[.slice none 0 0] 28)).alloc (.cells #[.slice none 0 0] 28)=w0 at *;clear i1 i2;go_loopw [5] (fun i wr=>∃ j:Nat,j≤n∧i= .int .i64 j∧Hid (NwS w wr j)) (fun i _=>n - (intOf i).toNat);case atStart=>exact ⟨0,Nat.zero_le _,rfl,S0⟩
 case round=>
  clear S0;obtain ⟨j,hj,rfl,HS⟩:=hrel;obtain ⟨v,es,hob,hof,hoe⟩:=HS.o.o;obtain ⟨Ao,co,rfl,_⟩:=hof.own.at;have hel:es.length=j:=by have:=congrArg List.length hoe;simpa using this
  have c0:=hob.cell 0;by_cases hlt:j < n;case pos=>
   have j1:(j:Int) < (n:Int):=(by omega);obtain ⟨wj1,wj2⟩:=bg (q:=j) (n:=3) (by omega) (by omega);have HOB:=Hd hob;have HOF:=Hd hof;have HOE:=Hd hoe;have HEL:=Hd (show es.length≤3 by omega);have RWN:=Hd (aI ENd wr (ndC iY (.slice none 0 0)) 145 ⟨iY,none,0⟩ rfl (Nat.lt_succ_self wr.heap.size));clear hob hof hoe hel;have hsa:(wr.alloc (.cells (ndC iY (.slice none 0 0)) 145)).heap.size=wr.heap.size+1:=(by simp);have HN:=Hd (show ax ENd (wr.alloc (.cells (ndC iY (.slice none 0 0)) 145)) wr.heap.size (.slice (some ⟨wr.heap.size,0,none⟩) 1 1) [(⟨iY,none,0⟩:Nm)] from
    ⟨rfl, .inr ⟨wr.heap.size,1,ndC iY (.slice none 0 0),rfl,Nat.le_refl _,heap_alloc_new wr _,Nat.le_refl _,by unfold maxLen;omega,rfl,rfl⟩⟩)
   have HF2:=Hd ((HOF.o.below ((Below.refl wr.heap.size wr).alloc (Nat.le_refl _) (.cells (ndC iY (.slice none 0 0)) 145))));have RWD:=Hd (aI EDv (wr.alloc (.cells (ndC iY (.slice none 0 0)) 145)) (dvC 2 (.slice (some ⟨wr.heap.size,0,none⟩) 1 1)) 142 ⟨2, [⟨iY,none,0⟩],some ⟨wr.heap.size,0,none⟩,1⟩ rfl (Nat.lt_succ_self _));have HF3:=Hd (HF2.o.below ((Below.refl _ (wr.alloc (.cells (ndC iY (.slice none 0 0)) 145))).alloc (Nat.le_refl _) (.cells (dvC 2 (.slice (some ⟨wr.heap.size,0,none⟩) 1 1)) 142)));go_upto_region 7 with fail;go_wp2_with (at_builtin;refine aj EDv rfl (.tmp 19) (.tmp 23) rfl (w.heap.size+1+1) (.slice Ao es.length co) es rfl HF3.o.own (wr.heap.size+1+1) (some ⟨wr.heap.size+1,0,none⟩) 1 1 [⟨2, [⟨iY,none,0⟩],some ⟨wr.heap.size,0,none⟩,1⟩] rfl rfl (by have:=RWD.o;rw [hsa] at this;exact this) (by have:=HEL.o;simp;omega) (by have:=HOB.o.lt;simp;omega) ?_);intro v9 w9 ho9 hg9 pQ;obtain ⟨A9,c9,e9,_⟩:=ho9.at;have e9x:v9= .slice A9 (es.length+1) c9:=(by rw [e9];simp);clear e9;subst e9x;clear c0;have hgw:w.heap.size+1 < wr.heap.size:=HOB.o.lt;have hne:∀ g,g≤w.heap.size+1→(Value.slice Ao es.length co).ownBlock≠some g:=fun g hg e=>by have:=HOF.o.own.ge g e;omega
   have HO9:=Hd (((HOB.o.alloc (.cells (ndC iY (.slice none 0 0)) 145)).alloc (.cells (dvC 2 (.slice (some ⟨wr.heap.size,0,none⟩) 1 1)) 142)).grown hg9 (hne _ (Nat.le_refl _)));have c0:=HO9.o.cell 0;have f0:=HO9.o.free 0;have hfs:=aC.app (d:=⟨2, [⟨iY,none,0⟩],some ⟨wr.heap.size,0,none⟩,1⟩) HF3.o ((HN.o.alloc _).low (by omega)) (by show 1≤1000;omega) (fun x hx=>by
    rw [List.mem_singleton.1 hx];exact ⟨ax.nil _ _,by show (0:Nat)≤1000;omega,by show (0:Nat)≤1000;omega,fun y hy=>by cases hy⟩) (fun d' hd' g e r=>by
    have h1:=(HOF.o.nodes d' hd').1.lt g e;injection r with r;have:wr.heap.size=g:=r;omega) ho9 hg9 (by have:=HEL.o;omega)
   have HN9:=Hd (show NwS w (w9.setCell ⟨w.heap.size+1,0,none⟩ (.slice A9 (es.length+1) c9)) (j+1) from
    ⟨(((HS.o.low.alloc HS.o.low.size _).alloc (by simp;omega) _).grown hg9 (by simp;omega) (fun q e=>by have:=HOF.o.own.ge q e;omega)).setCell (p:=⟨w.heap.size+1,0,none⟩) (by show w.heap.size≤w.heap.size+1;omega) _,
     ((((HS.o.res.alloc _).alloc _).grown hg9 (hne _ (by omega))).af _ (by show w.heap.size≠w.heap.size+1;omega)),
     .slice A9 (es.length+1) c9,_,HO9.o.put 0 _,hfs.far (av w9 (w.heap.size+1) 0 _) (fun q e=>by injection e with e;subst e;exact hfs.old (by omega)),by
      rw [List.map_append,HOE.o,List.replicate_succ'];rfl⟩)
   clear ho9 hg9 pQ hne hfs;go_wp2_with fail;go_roundw;case rel=>exact ⟨j+1,hlt,by go_num,HN9⟩
   case measure=>simp [intOf];omega
  case neg=>
   have j1:¬ (j:Int) < (n:Int):=(by omega);have hjn:j=n:=(by omega);have HOB:=Hd hob;have Er:=Hd HS.o.res;have sI:=Hd HS.o.low;have HFF:=Hd (hof.far (aA wr w.heap.size #[.slice Ao es.length co]) (fun q e=>by injection e with e;subst e;exact hof.old (by omega)));rw [hjn] at hoe;have HOE:=Hd hoe;clear hob hof hoe HS hel hjn;go_wp2_with (first | ((with_reducible refine ay ?_ 28 (.tmp 4) ?_ HOB.o ?_ _ Tryz.underlying28 ?_ ?_ ?_);(iterate 4 rfl);exact bQ _) | ((with_reducible refine ae ?_ 28 (.tmp 2) (.tmp 26) ?_ Er.o #[.slice Ao es.length co] ?_ ?_ ?_ ?_ ?_ ?_);(iterate 4 rfl);(exact bQ _);rfl;(simp [Value.oneCell'])));refine bodyPost_ret (mP (fn:=Tryz.f79) rfl _ _ w.heap.size (.slice Ao es.length co) rfl (Blk.row Er.o _)) rfl ?_;exact ⟨_,es,rfl,HFF.o.low (by omega),HOE.o,ai sI.o (Nat.le_refl _) _⟩
structure Sl where
 A:Option Addr
 n:Nat
 c:Nat
abbrev Sl.v (s:Sl):Value:= .slice s.A s.n s.c
structure bN where
 d:Int
 i:Int
 o:Sl
 u:Bool
 n:Int
 ps:Sl
 gs:Sl
structure bB where
 gv:ByteArray
 pa:ByteArray
 dd:Int
 di:Int
 nm:ByteArray
 ro:Int
 mo:Int
 pe:Int
def bE (c:Ctx) (r:bN) (it:Value):Array Value:=#[.int .i64 c.ph, .int .i64 (c.p 0), .int .i64 (c.p 1), .int .i64 (c.p 2), .int .i64 (c.p 3), .int .i64 (c.p 4), .int .i64 (c.p 5), .int .i64 (c.p 6), .int .i64 (c.p 7), .int .i64 r.d, .int .i64 r.i, .string c.comm, .string c.exe,r.o.v, .bool r.u, .int .i64 r.n, .int .i64 (c.a 0), .int .i64 (c.a 1), .int .i64 (c.a 2), .int .i64 (c.a 3),r.ps.v,r.gs.v, .int .i64 c.ex,it, .int .i64 c.ty]
def aO (i:Itm) (r:bB):Array Value:=#[.string r.gv, .string r.pa, .int .i64 r.dd, .int .i64 r.di, .string r.nm, .int .i64 i.dev, .int .i64 i.ino, .int .i64 r.ro, .int .i64 i.kind, .int .i64 r.mo, .int .i64 i.uid, .int .i64 i.gid, .int .i64 r.pe]
abbrev qa (c:Ctx) (r:bN) (it:Value):Value:= .agg (bE c r it)
abbrev rR (i:Itm) (r:bB):Value:= .agg (aO i r)
section
variable {w:World} {g:Nat} {c:Ctx} {r:bN} {it:Value} {i:Itm} {ir:bB}
abbrev bU (w:World) (g:Nat) (c:Ctx) (r:bN) (it:Value):Prop:=Blk w g 54 (bE c r it)
abbrev gJ (w:World) (g:Nat) (i:Itm) (r:bB):Prop:=Blk w g 73 (aO i r)
abbrev jR (w:World) (g:Nat) (fd op nu:Int) (tx:ByteArray) (ot:Int):Prop:=Blk w g 85 (aV fd op nu tx ot)
theorem bU.p0 (h:bU w g c r it):w.cell? ⟨g,1,none⟩=some (.int .i64 (c.p 0)):=h.cell 1
theorem bU.p1 (h:bU w g c r it):w.cell? ⟨g,2,none⟩=some (.int .i64 (c.p 1)):=h.cell 2
theorem bU.p2 (h:bU w g c r it):w.cell? ⟨g,3,none⟩=some (.int .i64 (c.p 2)):=h.cell 3
theorem bU.p3 (h:bU w g c r it):w.cell? ⟨g,4,none⟩=some (.int .i64 (c.p 3)):=h.cell 4
theorem bU.p4 (h:bU w g c r it):w.cell? ⟨g,5,none⟩=some (.int .i64 (c.p 4)):=h.cell 5
theorem bU.p5 (h:bU w g c r it):w.cell? ⟨g,6,none⟩=some (.int .i64 (c.p 5)):=h.cell 6
theorem bU.p6 (h:bU w g c r it):w.cell? ⟨g,7,none⟩=some (.int .i64 (c.p 6)):=h.cell 7
theorem bU.p7 (h:bU w g c r it):w.cell? ⟨g,8,none⟩=some (.int .i64 (c.p 7)):=h.cell 8
theorem bU.comm (h:bU w g c r it):w.cell? ⟨g,11,none⟩=some (.string c.comm):=h.cell 11
theorem bU.exe (h:bU w g c r it):w.cell? ⟨g,12,none⟩=some (.string c.exe):=h.cell 12
theorem bU.a0 (h:bU w g c r it):w.cell? ⟨g,16,none⟩=some (.int .i64 (c.a 0)):=h.cell 16
theorem bU.ex (h:bU w g c r it):w.cell? ⟨g,22,none⟩=some (.int .i64 c.ex):=h.cell 22
theorem bU.ty (h:bU w g c r it):w.cell? ⟨g,24,none⟩=some (.int .i64 c.ty):=h.cell 24
theorem bU.c9 (h:bU w g c r it):w.cell? ⟨g,9,none⟩=some (.int .i64 r.d):=h.cell 9
theorem bU.c10 (h:bU w g c r it):w.cell? ⟨g,10,none⟩=some (.int .i64 r.i):=h.cell 10
theorem bU.c13 (h:bU w g c r it):w.cell? ⟨g,13,none⟩=some r.o.v:=h.cell 13
theorem bU.c14 (h:bU w g c r it):w.cell? ⟨g,14,none⟩=some (.bool r.u):=h.cell 14
theorem bU.items (h:bU w g c r it):w.cell? ⟨g,23,none⟩=some it:=h.cell 23
theorem gJ.dev (h:gJ w g i ir):w.cell? ⟨g,5,none⟩=some (.int .i64 i.dev):=h.cell 5
theorem gJ.ino (h:gJ w g i ir):w.cell? ⟨g,6,none⟩=some (.int .i64 i.ino):=h.cell 6
theorem gJ.kind (h:gJ w g i ir):w.cell? ⟨g,8,none⟩=some (.int .i64 i.kind):=h.cell 8
theorem gJ.uid (h:gJ w g i ir):w.cell? ⟨g,10,none⟩=some (.int .i64 i.uid):=h.cell 10
theorem gJ.gid (h:gJ w g i ir):w.cell? ⟨g,11,none⟩=some (.int .i64 i.gid):=h.cell 11
theorem jR.c0 {fd op nu:Int} {tx:ByteArray} {ot:Int} (h:jR w g fd op nu tx ot):w.cell? ⟨g,0,none⟩=some (.int .i64 fd):=h.cell 0
theorem jR.c1 {fd op nu:Int} {tx:ByteArray} {ot:Int} (h:jR w g fd op nu tx ot):w.cell? ⟨g,1,none⟩=some (.int .i64 op):=h.cell 1
theorem jR.c4 {fd op nu:Int} {tx:ByteArray} {ot:Int} (h:jR w g fd op nu tx ot):w.cell? ⟨g,4,none⟩=some (.int .i64 ot):=h.cell 4
theorem jK (c:Ctx) (r:bN) (it:Value):(Tryz.prog.info? 54).map (·.size)=some (bE c r it).size:=by show _=some 25;kernel_rfl
theorem iH (i:Itm) (r:bB):(Tryz.prog.info? 73).map (·.size)=some (aO i r).size:=by show _=some 13;kernel_rfl
theorem uX (fd op nu:Int) (tx:ByteArray) (ot:Int):(Tryz.prog.info? 85).map (·.size)=some (aV fd op nu tx ot).size:=by show _=some 5;kernel_rfl
theorem Ce (w:World) (c:Ctx) (r:bN) (it:Value) (o:Obj):bU ((w.alloc (.cells (bE c r it) 54)).alloc o) w.heap.size c r it:=(Blk.new w _ _).alloc o
theorem JR (w:World) (i:Itm) (r:bB) (o:Obj):gJ ((w.alloc o).alloc (.cells (aO i r) 73)) (w.heap.size+1) i r:=by
 have:=Blk.new (w.alloc o) (aO i r) 73;simpa using this
end
attribute [local irreducible] bE aO
theorem uY (c:Ctx):Cb c 22=decide (c.ty≠0):=by unfold Cb;rw [if_neg (by omega)];simp
end Go.Proofs.YtollifnnpihfdaaGreatDoor
namespace Go.Proofs.YtollifnnpihfdaaGreatDoor
open Go.RowKit
theorem MU (w:World) (fd op nu:Int) (tx:ByteArray) (ot:Int):Blk (w.alloc (.cells (aV fd op nu tx ot) 85)) w.heap.size 85 (aV fd op nu tx ot)∧Below w.heap.size w (w.alloc (.cells (aV fd op nu tx ot) 85)):=⟨Blk.new w _ _,(Below.refl _ _).alloc (Nat.le_refl _) _⟩
theorem dD {w:World} {g:Nat} {fd op nu:Int} {tx:ByteArray} {ot:Int} (h:Blk w g 85 (aV fd op nu tx ot)):w.cell? ⟨g,0,none⟩=some (.int .i64 fd)∧w.cell? ⟨g,1,none⟩=some (.int .i64 op)∧w.cell? ⟨g,2,none⟩=some (.int .i64 nu)∧w.cell? ⟨g,3,none⟩=some (.string tx)∧w.cell? ⟨g,4,none⟩=some (.int .i64 ot):=⟨h.cell 0,h.cell 1,h.cell 2,h.cell 3,h.cell 4⟩
attribute [local irreducible] fK
end Go.Proofs.YtollifnnpihfdaaGreatDoor
