import Derived.Test.YtollifnnpihfdaaGreatDoorB08
set_option maxRecDepth 100000
set_option maxHeartbeats 64000000
set_option linter.all false
namespace Go.Proofs.YtollifnnpihfdaaGreatDoor
open Go.RowKit
theorem vk (l:List En) (ino:Int) (k:Nat) (hk:k < l.length):lK (l.take (k+1)) ino=lK (l.take k) ino+(if l[k].ino == ino then 1 else 0):=by
 unfold lK;rw [List.take_succ_eq_append_getElem hk,List.countP_append];congr 1;simp [List.countP_cons]
theorem vw (l:List Nd) (ino:Int) (k:Nat) (hk:k < l.length):jc (l.take (k+1)) ino=jc (l.take k) ino+lK l[k].es ino:=by
 unfold jc;rw [List.take_succ_eq_append_getElem hk,List.map_append,List.sum_append];simp
theorem aN {n q:Nat} (h:q < n) (i:Value) (hi:i= .int .i64 ((q:Int)+1)):n - (intOf i).toNat < n - (intOf (.int .i64 (q:Int))).toNat:=by
 subst hi;simp [intOf];omega
theorem dH {q:Nat} (h:q≤100000000):wrap64 ((q:Int)+1)=(q:Int)+1∧IntKind.i64.wrap ((q:Int)+1)=(q:Int)+1:=⟨IntWalk.wrap64_in _ (by omega),IntWalk.i64_in _ (by omega)⟩
theorem aT (w:World) (cs ds:Array Value) (s t:TypeId):Below w.heap.size w ((w.alloc (.cells cs s)).alloc (.cells ds t)):=((Below.refl w.heap.size w).alloc (Nat.le_refl _) _).alloc (by simp) _
theorem CG (dev ino:Int) (ds:List Dm) (A:Option Addr) (n c:Nat) (hn:n=ds.length) (w:World) (h:bZ w w.heap.size A ds):
  Calls Tryz.prog 261 #[fsV A n c,flV dev ino] w fun e w' =>e= .returned (.int .i64 (iI (ds.map Dm.dv) dev ino))∧Below w.heap.size w w' :=by
 have HN:=Hd hn;have B0:=Hd (aT w #[.slice A n c] #[.int .i64 dev, .int .i64 ino] 28 44);have F0:=Hd (h.below B0.o);have HI:=Hd (kR dev ino ds A n c hn _ F0.o);have HL:=Hd (show iI (ds.map Dm.dv) dev ino=match fA (ds.map Dm.dv) dev with | none=>0 | some d=>match jh d.ns ino with | none=>0 | some _=>(jc d.ns ino:Int) from rfl);have V0:=Hd ((Blk.new w #[.slice A n c] 28).alloc (.cells #[.int .i64 dev, .int .i64 ino] 44));have U0:=Hd (show Blk ((w.alloc (.cells #[.slice A n c] 28)).alloc (.cells #[.int .i64 dev, .int .i64 ino] 44)) (w.heap.size+1) 44 #[.int .i64 dev, .int .i64 ino] by
  have h:=Blk.new (w.alloc (.cells #[.slice A n c] 28)) #[.int .i64 dev, .int .i64 ino] 44;simpa using h)
 clear h hn;go_in;go_wp2_with fail;refine HI.o.mono ?_;rintro e w1 ⟨rfl,hb⟩;have B1:=Hd (B0.o.trans (hb.mono B0.o.size));have F1:=Hd (F0.o.below hb);have V1:=Hd (V0.o.below hb);have U1:=Hd (U0.o.below hb);clear hb HI B0 F0 V0 U0;cases hi:fD (ds.map Dm.dv) dev ino with
 | none=>
  have HR:=Hd (show iI (ds.map Dm.dv) dev ino=0 by
   rw [HL.o];unfold fD at hi;cases hd:fA (ds.map Dm.dv) dev with
   | none=>rfl
   | some d=>rw [hd] at hi;have hi:jh d.ns ino=none:=hi;simp only [hi])
  have i1:Fh none < 0:=by decide
  clear hi;go_wp2_with fail;go_ret;exact ⟨by rw [HR.o];rfl,B1.o⟩
 | some k=>
  obtain ⟨j,hj,hk,rfl,hq⟩:=dR hi;clear hq;have HR:=Hd (show iI (ds.map Dm.dv) (j:Int) ino=(jc (ds[j].xs.map (·.nd)) ino:Int) by
   rw [HL.o,dJ (by omega) (by rw [Int.toNat_natCast];exact hj)];have hi:jh (ds[j].xs.map (·.nd)) ino=some k:=by
    unfold fD at hi;rw [dJ (by omega) (by rw [Int.toNat_natCast];exact hj)] at hi;exact hi
   have e:ds[Int.toNat (j:Int)].dv.ns=ds[j].xs.map (fun x=>x.nd):=rfl;simp only [e,hi])
  have j1:(j:Int) < (n:Int):=by rw [HN.o];omega
  have j2:(0:Int)≤(j:Int):=by omega
  have i1:Fh (some k)=(k:Int):=rfl;have i2:¬ (k:Int) < 0:=by omega
  have HD:=Hd (F1.o.nodes ds[j] (List.getElem_mem hj));have HE:=Hd (F1.o.cu ds[j] (List.getElem_mem hj));obtain ⟨ad,rfl,hab,hcx⟩:=F1.o.at_ j hj;obtain ⟨s0,s1⟩:=bO (a:=ad.add (j * 2)) hcx;have v0:=V1.o.cell 0;have u0:=U1.o.cell 0;rw [i1];clear hcx hi i1 hk HL F1 V1;generalize ds[j]=d at *;have u1:=U1.o.cell 1;go_wp2_with fail;clear s0 s1 v0 u0;go_loopw [5,7] (fun v i wr=>∃ q t:Nat,q≤d.xs.length∧v= .int .i64 (jc ((d.xs.map (·.nd)).take q) ino:Nat)∧i= .int .i64 q∧wr=w1.drewN t∧jc ((d.xs.map (·.nd)).take q) ino≤1000 * q) (fun _ i _=>d.xs.length - (intOf i).toNat);case atStart=>exact ⟨0,0,Nat.zero_le _,rfl,rfl,rfl,Nat.le_refl _⟩
  case round=>
   generalize wr=ws at *;obtain ⟨q,t,hq,rfl,rfl,rfl,hle⟩:=hrel;have hlen:=HD.o.2;have WQ:=Hd (bq hq (by omega));by_cases hlt:q < d.xs.length;case neg=>
    have q1:¬ (q:Int) < (d.xs.length:Int):=(by omega);have HC:=Hd (show (d.xs.map (·.nd)).take q=d.xs.map (·.nd) from List.take_of_length_le (by simp;omega));go_wp2_with fail;go_ret;exact ⟨by rw [HR.o,HC.o];rfl,below_drewN B1.o _⟩
   case pos=>
    have q1:(q:Int) < (d.xs.length:Int):=(by omega);have q2:(0:Int)≤(q:Int):=(by omega);obtain ⟨bd,hbd,hbb,hcy⟩:=HD.o.1 q hlt;obtain ⟨t0,t1,t2,t3,t4,t5,t6,t7⟩:=dh (a:=bd.add (q * 8)) hcy;have HX:=Hd (HE.o d.xs[q] (List.getElem_mem hlt));have HST:=Hd (show jc ((d.xs.map (·.nd)).take (q+1)) ino=jc ((d.xs.map (·.nd)).take q) ino+lK d.xs[q].nd.es ino by rw [vw _ _ _ (by simpa using hlt)];simp);clear hcy t0 t1 t2 t3 t4 t5 t6;generalize d.xs[q]=x at *;rw [hbd];go_wp2_with fail;go_loopw [5,8] (fun v i wr=>∃ r t' :Nat,r≤x.nd.es.length∧v= .int .i64 (jc ((d.xs.map (·.nd)).take q) ino+lK (x.nd.es.take r) ino:Nat)∧i= .int .i64 r∧wr=w1.drewN t' ∧lK (x.nd.es.take r) ino≤r) (fun _ i _=>x.nd.es.length - (intOf i).toNat);case atStart=>exact ⟨0,t,Nat.zero_le _,rfl,rfl,rfl,Nat.le_refl _⟩
    case round=>
     obtain ⟨r,t',hr,rfl,rfl,rfl,hle2⟩:=hrel;have hes:=HX.o.2.1;have WR:=Hd (bq hr (by omega));by_cases hrl:r < x.nd.es.length;case neg=>
      have r1:¬ (r:Int) < (x.nd.es.length:Int):=(by omega);have HC:=Hd (show lK (x.nd.es.take r) ino=lK x.nd.es ino by rw [List.take_of_length_le (by omega)]);have hb1:jc ((d.xs.map (·.nd)).take (q+1)) ino≤1000 * (q+1):=(by rw [HST.o, ← HC.o];omega);have HB1:=Hd hb1;clear hb1 hle hle2 hlen hes;obtain ⟨wq1,wq2⟩:=WQ.o;go_wp2_with fail;go_roundw;case rel=>exact ⟨q+1,_,hlt,by rw [HST.o,HC.o],by go_num,rfl,HB1.o⟩
      case measure=>exact aN hlt _ rfl
     case pos=>
      have r1:(r:Int) < (x.nd.es.length:Int):=(by omega);have r2:(0:Int)≤(r:Int):=(by omega);obtain ⟨cd,hcd,hcb,hcz⟩:=HX.o.1 r hrl;obtain ⟨e0,e1⟩:=gy (a:=cd.add (r * 2)) hcz;have Jq:=Hd (vk x.nd.es ino r hrl);have WV:=Hd (dH (q:=jc ((d.xs.map (·.nd)).take q) ino+lK (x.nd.es.take r) ino) (by omega));clear hcz e0;generalize x.nd.es[r]=y at *;generalize hcc:jc ((d.xs.map (·.nd)).take q) ino+lK (x.nd.es.take r) ino=cc at *;have HCC:=Hd hcc;clear hcc;rw [hcd] at t7;cases hb:(y.ino == ino) with
      | true=>
       have HR2:=Hd (show jc ((d.xs.map (·.nd)).take q) ino+lK (x.nd.es.take (r+1)) ino=cc+1∧lK (x.nd.es.take (r+1)) ino≤r+1 by rw [Jq.o,hb, ← HCC.o];simp;omega);have HV:=Hd (show Value.int .i64 ((cc:Int)+1)=Value.int .i64 ((jc ((d.xs.map (·.nd)).take q) ino+lK (x.nd.es.take (r+1)) ino:Nat):Int) by rw [HR2.o.1];rfl);have HW:=Hd (show Value.int .i64 ((r:Int)+1)=Value.int .i64 ((r+1:Nat):Int) from rfl);clear Jq hle hle2 hlen hes;go_upto_region 11 with fail;go_quiet (fail);obtain ⟨wr1,wr2⟩:=WR.o;obtain ⟨wv1,wv2⟩:=WV.o;go_wp2_with fail;clear wr1 wr2 wv1 wv2;go_roundw;case rel=>
        refine ⟨r+1,t' +nq,hrl,HV.o,HW.o,?_,HR2.o.2⟩;rfl
       case measure=>exact aN hrl _ rfl
      | false=>
       have HR2:=Hd (show jc ((d.xs.map (·.nd)).take q) ino+lK (x.nd.es.take (r+1)) ino=cc∧lK (x.nd.es.take (r+1)) ino≤r+1 by rw [Jq.o,hb, ← HCC.o];simp;omega);have HV:=Hd (show Value.int .i64 (cc:Int)=Value.int .i64 ((jc ((d.xs.map (·.nd)).take q) ino+lK (x.nd.es.take (r+1)) ino:Nat):Int) by rw [HR2.o.1]);have HW:=Hd (show Value.int .i64 ((r:Int)+1)=Value.int .i64 ((r+1:Nat):Int) from rfl);clear Jq hle hle2 hlen hes;go_upto_region 11 with fail;go_quiet (fail);obtain ⟨wr1,wr2⟩:=WR.o;obtain ⟨wv1,wv2⟩:=WV.o;go_wp2_with fail;clear wr1 wr2 wv1 wv2;go_roundw;case rel=>
        refine ⟨r+1,t' +nq,hrl,HV.o,HW.o,?_,HR2.o.2⟩;rfl
       case measure=>exact aN hrl _ rfl
section
variable {w w' :World} {base:Nat} {v:Value} {ds:List Dm}
theorem aC.Mg {g n c:Nat} (h:aC w base (.slice (some ⟨g,0,none⟩) n c) ds) {j i:Nat} {u:Value} (hj:j < ds.length) {d' :Dm} (hi:i < 2) (hx:EDv.C d' =(EDv.C (ds[j])).set i u)
  (hd:ax ENd w base d'.sl d'.xs∧d'.xs.length≤1000) (hxs:∀ x∈d'.xs,ax EEn w base x.sl x.nd.es∧jg x.nd)
  (hn:∀ k (hk:k < ds.length),k≠j→∀ q,ds[k].sl.ownBlock=some q→d'.sl.ownBlock≠some q):aC (w.setCell ⟨g,j * 2+i,none⟩ u) base (.slice (some ⟨g,0,none⟩) n c) (ds.set j d'):=by
 have hgc:=av w g (j * 2+i) u;have hne:∀ {x:Nm},ax EEn w base x.sl x.nd.es→∀ q,x.sl.ownBlock=some q→some g≠some q:=fun {x} hx q e r=>by
  injection r with r;subst r;exact aB hx h.own (show (209:Nat)≠142 by decide) _ e rfl
 have hne2:∀ {d:Dm},ax ENd w base d.sl d.xs→∀ q,d.sl.ownBlock=some q→some g≠some q:=fun {d} hx q e r=>by
  injection r with r;subst r;exact aB hx h.own (show (145:Nat)≠142 by decide) _ e rfl
 refine h.JW hj hgc (h.own.put hj (by show i < 2;exact hi) hx) ⟨hd.1.far hgc (fun q e r=>hne2 hd.1 q e r),hd.2⟩ (fun x hx' =>⟨(hxs x hx').1.far hgc (fun q e r=>hne (hxs x hx').1 q e r),(hxs x hx').2⟩) (fun k hk hkj q e=>⟨fun r=>hne2 (h.nodes _ (List.getElem_mem hk)).1 q e r,hn k hk hkj q e⟩) (fun d hd' x hx' q e r=>hne (h.cu d hd' x hx').1 q e r)
theorem aC.Nv (h:aC w base v ds) {j:Nat} (hj:j < ds.length) {d' :Dm} (hv:ax EDv w' base v (ds.set j d')) (hd:ax ENd w' base d'.sl d'.xs∧d'.xs.length≤1000) (hx:∀ x∈d'.xs,ax EEn w' base x.sl x.nd.es∧jg x.nd)
   (ho:∀ i (hi:i < ds.length),i≠j→ax ENd w' base ds[i].sl ds[i].xs) (he:∀ d∈ds,∀ x∈d.xs,ax EEn w' base x.sl x.nd.es)
   (hn:∀ i (hi:i < ds.length),i≠j→∀ g,ds[i].sl.ownBlock=some g→d'.sl.ownBlock≠some g):aC w' base v (ds.set j d'):=by
 have hin:∀ d∈ds.set j d',d=d' ∨∃ i,∃ hi:i < ds.length,i≠j∧d=ds[i]:=fun d hd=>by
   obtain ⟨i,hi,e⟩:=List.getElem_of_mem hd;rw [List.length_set] at hi;rw [List.getElem_set] at e;split at e
   · exact .inl e.symm
   · rename_i hne;exact .inr ⟨i,hi,fun e=>hne e.symm,e.symm⟩
 refine ⟨hv,by rw [List.length_set];exact h.few,fun d hd' =>?_,fun d hd' x hx' =>?_,?_⟩
 · rcases hin d hd' with rfl | ⟨i,hi,hne,rfl⟩
   · exact hd
   · exact ⟨ho i hi hne,(h.nodes _ (List.getElem_mem hi)).2⟩
 · rcases hin d hd' with rfl | ⟨i,hi,hne,rfl⟩
   · exact hx x hx'
   · exact ⟨he _ (List.getElem_mem hi) x hx',(h.cu _ (List.getElem_mem hi) x hx').2⟩
 · have ha:=List.pairwise_iff_getElem.1 h.apart;refine List.pairwise_iff_getElem.2 fun i k hi hk hik g hgi hgk=>?_;rw [List.length_set] at hi hk;rw [List.getElem_set] at hgi hgk;split at hgi
   · split at hgk
     · omega
     · rename_i h1 h2;exact hn k hk (fun e=>h2 e.symm) g hgk hgi
   · split at hgk
     · rename_i h1 h2;exact hn i hi (fun e=>h1 e.symm) g hgi hgk
     · exact ha i k hi hk hik g hgi hgk
theorem aC.addN {g n c:Nat} (h:aC w base (.slice (some ⟨g,0,none⟩) n c) ds) {j:Nat} (hj:j < ds.length) {d:Dm} (hdj:d=ds[j]) {x:Nm} {A9:Option Addr} {n9 c9:Nat} (hn9:n9=(d.xs ++ [x]).length)
   (ho9:ax ENd w' base (.slice A9 n9 c9) (d.xs ++ [x])) (hg9:w.grownBy w' d.sl.ownBlock) (hat:(Value.slice A9 n9 c9).ownBlock=d.sl.ownBlock∨(Value.slice A9 n9 c9).ownBlock=some w.heap.size)
   (hl:d.xs.length≤999) (hx:x.nd.es= []∧x.A=none∧x.c=0) (hsz:jg x.nd):
   aC (w'.setCell ⟨g,j * 2+1,none⟩ (.slice A9 n9 c9)) base (.slice (some ⟨g,0,none⟩) n c) (ds.set j ⟨d.nx,d.xs ++ [x],A9,c9⟩):=by
 subst hdj;subst hn9;have hd:=h.nodes _ (List.getElem_mem hj);have hgc:=av w' g (j * 2+1) (.slice A9 (ds[j].xs ++ [x]).length c9);have hv1:ax EDv w' base (.slice (some ⟨g,0,none⟩) n c) ds:=h.own.far hg9 fun k e r=>aB h.own hd.1 (show (142:Nat)≠145 by decide) k e r;have hv2:ax EDv (w'.setCell ⟨g,j * 2+1,none⟩ (.slice A9 (ds[j].xs ++ [x]).length c9)) base (.slice (some ⟨g,0,none⟩) n c) (ds.set j ⟨ds[j].nx,ds[j].xs ++ [x],A9,c9⟩):=hv1.put hj (by show 1 < 2;omega) rfl;have hne2:∀ {d:Dm},ax ENd w' base d.sl d.xs→ax ENd (w'.setCell ⟨g,j * 2+1,none⟩ (.slice A9 (ds[j].xs ++ [x]).length c9)) base d.sl d.xs:=fun {d} hx=>hx.far hgc fun q e r=>by
   injection r with r;subst r;exact aB hx hv1 (show (145:Nat)≠142 by decide) _ e rfl
 have hne1:∀ {y:Nm},ax EEn w base y.sl y.nd.es→ax EEn (w'.setCell ⟨g,j * 2+1,none⟩ (.slice A9 (ds[j].xs ++ [x]).length c9)) base y.sl y.nd.es:=fun {y} hy=>by
   have h1:=hy.far hg9 fun q e r=>aB hy hd.1 (show (209:Nat)≠145 by decide) q e r;exact h1.far hgc fun q e r=>by
     injection r with r;subst r;exact aB h1 hv1 (show (209:Nat)≠142 by decide) _ e rfl
 refine h.Nv hj hv2 ⟨hne2 (d:=⟨ds[j].nx,ds[j].xs ++ [x],A9,c9⟩) ho9,by show (ds[j].xs ++ [x]).length≤1000;rw [List.length_append,List.length_singleton];omega⟩ (fun y hy=>?_) (fun i hi hij=>hne2 ((h.nodes _ (List.getElem_mem hi)).1.far hg9 fun q e r=>h.other hi hj hij e r)) (fun d hdm y hy=>hne1 (h.cu d hdm y hy).1) (fun i hi hij q e r=>?_)
 · rcases List.mem_append.1 hy with hy | hy
   · exact ⟨hne1 (h.cu _ (List.getElem_mem hj) y hy).1,(h.cu _ (List.getElem_mem hj) y hy).2⟩
   · rw [List.mem_singleton.1 hy];obtain ⟨e1,e2,e3⟩:=hx;refine ⟨?_,hsz⟩;show ax EEn _ base (.slice x.A x.nd.es.length x.c) x.nd.es;rw [e1,e2,e3];exact ax.nil _ _
 · have r:(Value.slice A9 (ds[j].xs ++ [x]).length c9).ownBlock=some q:=r;rcases hat with h1 | h1
   · exact h.other hi hj hij e (by rw [← h1];exact r)
   · rw [h1] at r;injection r with r;have:=(h.nodes _ (List.getElem_mem hi)).1.lt q e;omega
end
structure Chg where
 dd:Int
 di:Int
 nm:ByteArray
 od:Int
 oi:Int
 nd:Int
 ni:Int
theorem Tryz.CJ:(Tryz.prog.info? 283).map (fun i=>(i.zero,i.size,i.bytes))=some (some (.agg #[.int .i64 0, .int .i64 0, .string ⟨#[]⟩, .int .i64 0, .int .i64 0, .int .i64 0, .int .i64 0]),7,64):=by kernel_rfl
abbrev chC (x:Chg):Array Value:=#[.int .i64 x.dd, .int .i64 x.di, .string x.nm, .int .i64 x.od, .int .i64 x.oi, .int .i64 x.nd, .int .i64 x.ni]
def lN:El Chg where
 C x:= [.int .i64 x.dd, .int .i64 x.di, .string x.nm, .int .i64 x.od, .int .i64 x.oi, .int .i64 x.nd, .int .i64 x.ni]
 e:=283
 sl:=55
 sz:=7
 bs:=64
 len _:=rfl
 one x u hu:=by simp at hu;rcases hu with rfl | rfl | rfl | rfl | rfl | rfl | rfl <;> rfl
 pos:=by omega
 small:=by omega
 hu:=Tryz.underlying55
 info:=by
  obtain ⟨i0,h1,h2,h3,h4⟩:=info_parts Tryz.CJ;exact ⟨i0,_,h1,h2,h3,h4,rfl⟩
theorem vB {α:Type} (E:El α) (w:World) (base:Nat) (cs:Array Value) (x:α) (h:cs.toList=E.C x) (hb:base≤w.heap.size):ax E (w.alloc (.cells cs E.e)) base (.slice (some ⟨w.heap.size,0,none⟩) 1 1) [x]:=
 ⟨by simp [E.len], .inr ⟨w.heap.size,1,cs,rfl,hb,heap_alloc_new w _,Nat.le_refl _,by unfold maxLen;omega,by
  have:cs.size=(E.C x).length:=by rw [← h];simp
  rw [this,E.len];simp,by simp [h];exact List.take_of_length_le (by rw [E.len];exact Nat.le_refl _)⟩⟩
structure DrS (ws wr:World) (xs:List Nm) (t:Int) (q:Nat) (v:Value):Prop where
 low:Below ws.heap.size ws wr
 o:∃ (A:Option Addr) (c:Nat) (L:List Nm),v= .slice A L.length c∧ax ENd wr ws.heap.size v L∧L=(xs.take q).filter (fun x=> !(x.nd.ino == t))
theorem drop_take {xs:List Nm} {t:Int} {q:Nat} (hq:q < xs.length):(xs.take (q+1)).filter (fun x=> !(x.nd.ino == t))=(xs.take q).filter (fun x=> !(x.nd.ino == t)) ++ (if xs[q].nd.ino == t then [] else [xs[q]]):=by
 rw [List.take_succ_eq_append_getElem hq,List.filter_append];congr 1;cases h:xs[q].nd.ino == t <;> simp [h]
theorem CK (xs:List Nm) (t:Int):(xs.filter (fun x=> !(x.nd.ino == t))).map (·.nd)=(xs.map (·.nd)).filter (fun n=> !(n.ino == t)):=by
 rw [List.filter_map];rfl
theorem Fz (j:Nat) (t:Int) (ds:List Dm) (A:Option Addr) (n c:Nat) (hn:n=ds.length) (hj:j < ds.length) (base:Nat) (w:World) (h:aC w base (.slice A n c) ds) (hbase:base≤w.heap.size):
  Calls Tryz.prog 230 #[fsV A n c,flV (j:Int) t] w fun e w' =>∃ ds' :List Dm,e= .returned (.tuple #[])∧aC w' base (.slice A n c) ds' ∧ds'.map Dm.dv=lL (ds.map Dm.dv) j t∧ds'.length=ds.length∧Below base w w' ∧∃ row,w.grownBy w' row∧∀ q,row=some q→(Value.slice A n c).ownBlock=some q∨∃ d∈ds,d.sl.ownBlock=some q:=by
 have HN:=Hd hn;have HB:=Hd hbase;have B0:=Hd (aT w #[.slice A n c] #[.int .i64 (j:Int), .int .i64 t] 28 44);have F0:=Hd (h.below B0.o);obtain ⟨A',c',eA,hat⟩:=F0.o.at;injection eA with eA eN eC;subst eA;clear eC eN c';have HL:=Hd (CG (j:Int) t ds A n c hn _ hat);have V0:=Hd ((Blk.new w #[.slice A n c] 28).alloc (.cells #[.int .i64 (j:Int), .int .i64 t] 44));have U0:=Hd (show Blk ((w.alloc (.cells #[.slice A n c] 28)).alloc (.cells #[.int .i64 (j:Int), .int .i64 t] 44)) (w.heap.size+1) 44 #[.int .i64 (j:Int), .int .i64 t] by
  have h:=Blk.new (w.alloc (.cells #[.slice A n c] 28)) #[.int .i64 (j:Int), .int .i64 t] 44;simpa using h)
 have HD:=Hd (show lL (ds.map Dm.dv) (j:Int) t=if 0 < iI (ds.map Dm.dv) (j:Int) t then ds.map Dm.dv else mf (ds.map Dm.dv) j (fun d=> { d with ns:=d.ns.filter (fun n=> !(n.ino == t)) }) from rfl);have HOLD:=Hd (show ∀ g,g < base→g < w.heap.size from fun g hg=>by omega);clear hn hat h hbase;go_in;go_wp2_with fail;generalize (w.alloc (.cells #[.slice A n c] 28)).alloc (.cells #[.int .i64 (j:Int), .int .i64 t] 44)=w0 at *;refine HL.o.mono ?_;rintro e w1 ⟨rfl,hb⟩;have B1:=Hd (B0.o.trans (hb.mono B0.o.size));have F1:=Hd (F0.o.below hb);have V1:=Hd (V0.o.below hb);have U1:=Hd (U0.o.below hb);clear hb HL B0 F0 V0 U0;by_cases hc:0 < iI (ds.map Dm.dv) (j:Int) t;case pos=>
  have HR:=Hd (HD.o.trans (if_pos hc));go_wp2_with fail;refine bodyPost_ret (results_none rfl _ _ _) rfl ?_;exact ⟨ds,rfl,F1.o,HR.o.symm,rfl,B1.o.mono HB.o,none,bG (World.grownBy.refl w none) B1.o,fun q e=>by cases e⟩
 case neg=>
  have HR:=Hd (HD.o.trans (if_neg hc));have HC:=Hd hc;have hc2:¬ iI (ds.map Dm.dv) (j:Int) t > 0:=hc;clear HD;have j1:(j:Int) < (n:Int):=by rw [HN.o];omega
  have j2:(0:Int)≤(j:Int):=by omega
  obtain ⟨g,hg0,hg1,hg2,hg4⟩:=aW F1.o.own (Nat.lt_of_le_of_lt (Nat.zero_le j) hj);clear hg4;subst hg0;have HD1:=Hd (F1.o.nodes ds[j] (List.getElem_mem hj));obtain ⟨ad,e0,hab,hcx⟩:=aU F1.o.own j hj;injection e0 with e0;subst e0;obtain ⟨s0,s1⟩:=bO (a:=(⟨g,0,none⟩:Addr).add (j * 2)) hcx;rw [bP] at s1;replace s1:w1.cell? ⟨g,j * 2+1,none⟩=some (.slice ds[j].A ds[j].xs.length ds[j].c):=s1;clear s0;have v0:=V1.o.cell 0;have u0:=U1.o.cell 0;clear hcx hc;obtain ⟨d,hd⟩:∃ d,d=ds[j]:=⟨_,rfl⟩;have HDJ:=Hd hd;rw [← hd] at HD1 s1;clear hd;go_wp2_with fail;clear v0 u0;have S0:=Hd (show DrS w1 w1 d.xs t 0 (.slice none 0 0) from ⟨Below.refl _ _,none,0, [],rfl,ax.nil _ _,rfl⟩);have HS1:=Hd s1;clear s1;go_loopw [4,6] (fun v i wr=>∃ q:Nat,q≤d.xs.length∧i= .int .i64 q∧Hid (DrS w1 wr d.xs t q v)) (fun _ i _=>d.xs.length - (intOf i).toNat);case atStart=>exact ⟨0,Nat.zero_le _,rfl,S0⟩
  case round=>
   clear S0;obtain ⟨q,hq,rfl,HS⟩:=hrel;obtain ⟨Av,cv,L,rfl,hvo,hL⟩:=HS.o.o;have hlen:=HD1.o.2;have WQ:=Hd (bq hq (by omega));have HLL:=Hd (show L.length≤1000 by rw [hL];exact Nat.le_trans (List.length_filter_le _ _) (by rw [List.length_take];omega));by_cases hlt:q < d.xs.length;case pos=>
    have q1:(q:Int) < (d.xs.length:Int):=(by omega);have q2:(0:Int)≤(q:Int):=(by omega);obtain ⟨bd,hbd,hbb,hcy⟩:=aU HD1.o.1 q hlt;have HCY:=Hd (show ∀ k,k < 8→wr.cell? ((bd.add (q * 8)).add k)=(ENd.C d.xs[q])[k]? from fun k hk=>by
     rw [← hcy k hk];exact HS.o.low.cell (by rw [ak,ak];exact hbb))
    have HTK:=Hd (drop_take (t:=t) hlt);rw [← hL] at HTK;obtain ⟨t0,t1,t2,t3,t4,t5,t6,t7⟩:=dh (a:=bd.add (q * 8)) HCY.o;have u1:=(U1.o.below HS.o.low).cell 1;have VO:=Hd hvo;have hgw:w1.heap.size≤wr.heap.size:=HS.o.low.size;clear hvo hL hlen hcy;generalize d.xs[q]=x at *;rw [hbd];cases hb:(x.nd.ino == t) with
    | true=>
     have HN:=Hd (show DrS w1 wr d.xs t (q+1) (.slice Av L.length cv) from ⟨HS.o.low,Av,cv,L,rfl,VO.o,by rw [HTK.o,hb];simp⟩);have hb2:(x.nd.ino != t)=false:=(by rw [bne,hb];rfl);clear HTK hb;go_upto_region 7 with fail;go_quiet (fail);obtain ⟨wq1,wq2⟩:=WQ.o;go_wp2_with fail;clear wq1 wq2;go_roundw;case rel=>exact ⟨q+1,hlt,rfl,Hd ⟨below_drewN HN.o.low _,HN.o.o⟩⟩
     case measure=>exact aN hlt _ rfl
    | false=>
     have hb2:(x.nd.ino != t)=true:=(by rw [bne,hb];rfl);have Nw:=Hd (show ((d.xs.take (q+1)).filter (fun x=> !(x.nd.ino == t)))=L ++ [x] by rw [HTK.o,hb];rfl);clear HTK hb;go_upto_region 7 with fail;go_quiet (fail);have uw:=Hd (below_drewN HS.o.low nq);have VO2:=Hd (show ax ENd (wr.drewN nq) w1.heap.size (.slice Av L.length cv) L from VO.o);have Ny:w1.heap.size≤(wr.drewN nq).heap.size:=hgw;go_upto_region 8 with fail;obtain ⟨t0,t1,t2,t3,t4,t5,t6,t7⟩:=show (wr.drewN nq).cell? (bd.add (q * 8))=some (.int .i64 x.nd.ino)∧_∧_∧_∧_∧_∧_∧_ from dh (w:=wr.drewN nq) (x:=x) (a:=bd.add (q * 8)) HCY.o;generalize wr.drewN nq=w3 at *;have RW:=Hd (aI ENd w3 (ndC x.nd (.slice x.A x.nd.es.length x.c)) 145 x rfl (Nat.lt_succ_self w3.heap.size));have VO3:=Hd (VO2.o.alloc (.cells (ndC x.nd (.slice x.A x.nd.es.length x.c)) 145));have FB:=Hd (uw.o.alloc uw.o.size (.cells (ndC x.nd (.slice x.A x.nd.es.length x.c)) 145));go_wp2_with (at_builtin;refine aj ENd rfl (.tmp 32) (.tmp 37) rfl w1.heap.size (.slice Av L.length cv) L rfl VO3.o (w3.heap.size+1) (some ⟨w3.heap.size,0,none⟩) 1 1 [x] rfl rfl RW.o (by have:=HLL.o;simp;omega) (by simp;omega) ?_);intro v9 w9 ho9 hg9 qO;obtain ⟨A9,c9,e9,_⟩:=ho9.at;rw [show (L ++ [x]).length=L.length+1 by simp] at e9;subst e9;have HN9:=Hd (show DrS w1 w9 d.xs t (q+1) (.slice A9 (L.length+1) c9) from ⟨FB.o.grown hg9 FB.o.size (fun k e=>VO3.o.ge k e),A9,c9,L ++ [x],by simp,ho9,Nw.o.symm⟩);clear ho9 hg9 qO;obtain ⟨wq1,wq2⟩:=WQ.o;go_wp2_with fail;clear wq1 wq2;go_roundw;case rel=>exact ⟨q+1,hlt,rfl,HN9⟩
     case measure=>exact aN hlt _ rfl
   case neg=>
    have q1:¬ (q:Int) < (d.xs.length:Int):=(by omega);have hL2:L=d.xs.filter (fun x=> !(x.nd.ino == t)):=(by rw [hL,List.take_of_length_le (by omega)]);have hlow:=HS.o.low;have F2:=F1.o.below hlow;have hVo:=hvo;have v0:=(V1.o.below hlow).cell 0;have u0:=(U1.o.below hlow).cell 0;have s1:=(hlow.cell (p:=⟨g,j * 2+1,none⟩) hg2).trans HS1.o;have sf:=F2.own.free (j * 2+1);have hgv:∀ q,(Value.slice Av L.length cv).ownBlock=some q→w1.heap.size≤q:=fun q e=>hvo.ge q e;have hFS:=F2.Mg (j:=j) (i:=1) (u:= .slice Av L.length cv) (d' :=⟨d.nx,L,Av,cv⟩) hj (by omega) (by rw [← HDJ.o];rfl) ⟨hvo.low (Nat.le_trans (by have:=HB.o;omega) (Nat.le_of_lt (Nat.lt_of_le_of_lt hg1 hg2))),HLL.o⟩
     (fun x hx=>by
      rw [hL2] at hx;exact F2.cu ds[j] (List.getElem_mem hj) x (by rw [← HDJ.o];exact (List.mem_filter.1 hx).1))
     (fun k hk hkj q e r=>by
      have h1:=(F1.o.nodes ds[k] (List.getElem_mem hk)).1.lt q e;have h2:=hgv q r;omega)
    have HFS:=Hd hFS;have HON:=Hd (bG (bG (World.grownBy.refl w (some g)) B1.o) hlow);have HLW:=Hd ((B1.o.trans (hlow.mono B1.o.size)).mono HB.o);have HL2:=Hd (show (ds.set j (⟨d.nx,L,Av,cv⟩:Dm)).map Dm.dv=mf (ds.map Dm.dv) j (fun d=> { d with ns:=d.ns.filter (fun n=> !(n.ino == t)) }) from jE ds j hj _ _ (by
     rw [← HDJ.o,hL2];show (⟨d.nx,(d.xs.filter (fun x=> !(x.nd.ino == t))).map (·.nd)⟩:Dv)=⟨d.nx,(d.xs.map (·.nd)).filter (fun n=> !(n.ino == t))⟩;rw [CK]))
    clear hFS hVo hvo hL hL2 hlow F2 hlen hgv;go_wp2_with fail;refine bodyPost_end (results_none rfl _ _ _) rfl ?_;exact ⟨rfl,_,HFS.o,HL2.o.trans HR.o.symm,by rw [List.length_set],HLW.o.setCell (p:=⟨g,j * 2+1,none⟩) hg1 _,some g,aF HON.o (.inl rfl) _,fun q e=> .inl (by injection e with e;subst e;rfl)⟩
theorem FOk.new {n:Nat} (h1:1≤n) (h3:n≤3):FOk (List.replicate n ⟨2, [⟨1,2,493,0,0,1,⟨#[]⟩, []⟩]⟩):=by
 refine ⟨by simpa using h1,by simpa using h3,fun d hd=>?_⟩;rw [(List.mem_replicate.1 hd).2];have hm:∀ {n:Nd},n∈ [(⟨1,2,493,0,0,1,⟨#[]⟩, []⟩:Nd)]→n=⟨1,2,493,0,0,1,⟨#[]⟩, []⟩:=fun h=>List.mem_singleton.1 h;refine ⟨by decide,by decide,by decide,⟨_,_,rfl,rfl,rfl⟩,by decide,?_,?_,?_,?_,?_,?_⟩
 · intro n hn;rw [hm hn];decide
 · intro n hn;rw [hm hn];decide
 · intro n hn;rw [hm hn];exact ⟨by decide,by decide,fun e he=>by cases he⟩
 · intro n hn _ p hp e he;rw [hm hp] at he;cases he
 · intro n hn _ h1;rw [hm hn] at h1;exact absurd rfl h1
 · intro n hn _;rw [hm hn];exact ⟨0, .root⟩
structure Mt where
 dev:Int
 od:Int
 oi:Int
def onF (ms:List Mt) (dev:Int):Option (Int×Int):=(ms.find? (fun m=>m.dev == dev)).map (fun m=>(m.od,m.oi))
def fE (ms:List Mt) (dev:Int):Bool:=(onF ms dev).isSome || dev == 0
def za (ms:List Mt) (d i:Int):Option Int:=(ms.find? (fun m=>m.od == d && m.oi == i)).map (·.dev)
inductive MOk (f:List Dv):List Mt→Prop
 | nil:MOk f []
 | app {ms:List Mt} {m:Mt} :MOk f ms→1≤m.dev→m.dev < f.length→fE ms m.dev=false→fE ms m.od=true→bM f m.od m.oi=true→MOk f (ms ++ [m])
theorem nL (ms:List Mt) (m:Mt) (dev:Int):onF (ms ++ [m]) dev=(onF ms dev).or (if m.dev == dev then some (m.od,m.oi) else none):=by
 unfold onF;rw [List.find?_append];cases ms.find? (fun m=>m.dev == dev) with
 | some x=>rfl
 | none=>
  rw [Option.none_or,Option.map_none,Option.none_or,List.find?_cons];cases m.dev == dev <;> rfl
theorem MOk.zero {f:List Dv} {ms:List Mt} (h:MOk f ms):onF ms 0=none:=by
 induction h with
 | nil=>rfl
 | @app ms m _ h1 _ _ _ _ ih=>
  rw [nL,ih];have:(m.dev == 0)=false:=by simp;omega
  rw [this];rfl
theorem MOk.len {f:List Dv} {ms:List Mt} (h:MOk f ms):(ms.map (·.dev)).Nodup∧∀ m∈ms,1≤m.dev∧m.dev < f.length:=by
 induction h with
 | nil=>exact ⟨by simp,fun _ h=>by cases h⟩
 | @app ms m _ h1 h2 h3 _ _ ih=>
  refine ⟨?_,fun x hx=>?_⟩
  · rw [List.map_append,List.nodup_append];refine ⟨ih.1,by simp,fun a ha b hb=>?_⟩;have hb:b=m.dev:=(by simpa using hb);obtain ⟨x,hx,e⟩:=List.mem_map.1 ha;intro e2;unfold fE onF at h3;rw [Bool.or_eq_false_iff] at h3;have h4:=h3.1;rw [Option.isSome_map] at h4;have:=List.find?_eq_none.1 (Option.isSome_eq_false_iff.1 h4 |> Option.isNone_iff_eq_none.1) x hx;rw [show x.dev=a from e,e2,hb] at this;simp at this
  · rcases List.mem_append.1 hx with hx | hx
    · exact ih.2 x hx
    · rw [List.mem_singleton.1 hx];exact ⟨h1,h2⟩
theorem MOk.few {f:List Dv} {ms:List Mt} (h:MOk f ms) (hf:f.length≤3):ms.length≤2:=by
 obtain ⟨h1,h2⟩:=h.len;have:=jI h1 (M:= [1,2]) (fun x hx=>by
  obtain ⟨m,hm,e⟩:=List.mem_map.1 hx;have:=h2 m hm;rw [show m.dev=x from e] at this;have:x=1∨x=2:=by omega
  simpa using this)
 simpa using this
theorem MOk.J3 {f:List Dv} {ms:List Mt} (h:MOk f ms):∀ m∈ms,bM f m.od m.oi=true:=by
 induction h with
 | nil=>intro m hm;cases hm
 | app _ _ _ _ _ h5 ih=>
  intro x hx;rcases List.mem_append.1 hx with hx | hx
  · exact ih x hx
  · rw [List.mem_singleton.1 hx];exact h5
theorem MOk.files {f f' :List Dv} {ms:List Mt} (h:MOk f ms) (hl:f'.length=f.length) (hd:∀ m∈ms,bM f' m.od m.oi=true):MOk f' ms:=by
 induction h with
 | nil=>exact .nil
 | app _ h1 h2 h3 h4 _ ih=>
  exact .app (ih fun m hm=>hd m (List.mem_append_left _ hm)) h1 (by rw [hl];exact h2) h3 h4 (hd _ (List.mem_append_right _ (List.mem_singleton.2 rfl)))
theorem jo (ms:List Mt) (m:Mt) (dev:Int):fE (ms ++ [m]) dev=(fE ms dev || m.dev == dev):=by
 unfold fE;rw [nL];cases onF ms dev <;> cases m.dev == dev <;> cases dev == 0 <;> rfl
theorem MOk.remove {f:List Dv} {ms:List Mt} {dev:Int} (h:MOk f ms) (hno:∀ m∈ms,m.od≠dev):MOk f (ms.filter (fun m=> !(m.dev == dev)))∧∀ x,x≠dev→fE (ms.filter (fun m=> !(m.dev == dev))) x=fE ms x:=by
 induction h with
 | nil=>exact ⟨.nil,fun _ _=>rfl⟩
 | @app ms m _ h1 h2 h3 h4 h5 ih=>
  obtain ⟨i1,i2⟩:=ih fun m hm=>hno m (List.mem_append_left _ hm);have hod:m.od≠dev:=hno m (List.mem_append_right _ (List.mem_singleton.2 rfl));rw [List.filter_append];cases hm:m.dev == dev with
  | true=>
   have e: [m].filter (fun m=> !(m.dev == dev))= []:=(by simp [hm]);rw [e,List.append_nil];refine ⟨i1,fun x hx=>?_⟩;rw [i2 x hx,jo];have:(m.dev == x)=false:=by
    have h9:m.dev=dev:=(by simpa using hm);rw [h9];simpa using fun e=>hx e.symm
   rw [this,Bool.or_false]
  | false=>
   have e: [m].filter (fun m=> !(m.dev == dev))= [m]:=(by simp [hm]);have hmd:m.dev≠dev:=(by simpa using hm);rw [e];refine ⟨.app i1 h1 h2 (by rw [i2 _ hmd];exact h3) (by rw [i2 _ hod];exact h4) h5,fun x hx=>?_⟩;rw [jo,jo,i2 x hx]
def dZ (f:List Dv) (dev ino:Int):ByteArray:=
 match (match aD f dev (upF f dev ino) with | some p=>p.es.find? (fun e:En=>e.ino == ino) | none=>none) with
 | some e=>e.nm
 | none=>⟨#[]⟩
theorem FOk.root {f:List Dv} (h:FOk f) {dev:Int} {d:Dv} (hd:fA f dev=some d):bM f dev 1=true:=by
 have hok:=h.2.2 d (bz hd);obtain ⟨n,r,e,e1,e2⟩:=hok.root;have hn:n∈d.ns:=by rw [e];exact List.mem_cons_self ..
 have:=iD hd hok.uniq hn;rw [e1] at this;unfold bM;rw [this];simpa using e2
theorem kI {f:List Dv} {dev i:Int} (h:bM f dev i=true):∃ d n,fA f dev=some d∧n∈d.ns∧n.ino=i∧n.kind=2∧aD f dev i=some n:=by
 obtain ⟨n,hn,hk⟩:=kH h;obtain ⟨d,hd,hm,hi⟩:=aG hn;exact ⟨d,n,hd,hm,hi,hk,hn⟩
def SOk (f:List Dv) (ms:List Mt):Prop:=FOk f∧MOk f ms
theorem jN {f:List Dv} (h:FOk f) (dev ino:Int):(dZ f dev ino).size≤12:=by
 unfold dZ;split
 · rename_i e he;split at he
   · rename_i p hp;obtain ⟨d,hd,hm,_⟩:=aG hp;have hok:=h.2.2 d (bz hd);have:=((hok.cu p hm).2.2 e (List.mem_of_find?_eq_some he)).2.2;unfold dS at this;simp only [Bool.and_eq_true,decide_eq_true_eq] at this;exact this.1.1.1.2
   · cases he
 · decide
def lQ (T:Int→Prop) (d d' :Dv):Prop:=∀ n∈d.ns,n.kind=2→¬ T n.ino→∃ m∈d'.ns,m.ino=n.ino∧m.kind=2
theorem lQ.trans {T:Int→Prop} {a b c:Dv} (h:lQ T a b) (k:lQ T b c):lQ T a c:=fun n hn hk ht=>by
 obtain ⟨m,hm,e1,e2⟩:=h n hn hk ht;obtain ⟨r,hr,e3,e4⟩:=k m hm e2 (by rw [e1];exact ht);exact ⟨r,hr,e3.trans e1,e4⟩
theorem kV (T:Int→Prop) (d:Dv) (i:Int) (g:Nd→Nd) (hg:∀ n,(g n).ino=n.ino∧(g n).kind=n.kind):lQ T d { d with ns:=dN d.ns i g } :=fun n hn hk _=>by
 refine ⟨_,dn.2 ⟨n,hn,rfl⟩,?_⟩;split
 · exact ⟨(hg n).1,by rw [(hg n).2];exact hk⟩
 · exact ⟨rfl,hk⟩
theorem ek (T:Int→Prop) (d:Dv) (i:Int) (nm:ByteArray) (new:Int):lQ T d (opE d i nm new):=kV T d i _ fun _=>⟨rfl,rfl⟩
theorem pg (d:Dv) (t:Int):lQ (fun j=>j=t) d (opD d t):=fun n hn hk ht=>by
 unfold opD;split
 · exact ⟨n,hn,rfl,hk⟩
 · exact ⟨n,List.mem_filter.2 ⟨hn,by simpa using ht⟩,rfl,hk⟩
theorem tF (T:Int→Prop) (d:Dv) (x:Nd) (nx:Int):lQ T d ⟨nx,d.ns ++ [x]⟩:=fun n hn hk _=>⟨n,List.mem_append_left _ hn,rfl,hk⟩
def lS (dev:Int) (T:Int→Prop) (f f' :List Dv):Prop:=f'.length=f.length∧∀ a b,bM f a b=true→¬ (a=dev∧T b)→bM f' a b=true
theorem lS.refl (dev:Int) (T:Int→Prop) (f:List Dv):lS dev T f f:=⟨rfl,fun _ _ h _=>h⟩
theorem fM {T:Int→Prop} {f:List Dv} {dev:Int} {d d' :Dv} (hd:fA f dev=some d) (hk:lQ T d d') (hu:(d'.ns.map (·.ino)).Nodup):lS dev T f (f.set dev.toNat d'):=by
 refine ⟨by rw [List.length_set],fun a b h hne=>?_⟩;obtain ⟨e,n,hde,hn,hi,hkn,_⟩:=kI h;by_cases ha:a=dev
 · subst ha;rw [hd] at hde;cases hde;obtain ⟨m,hm,e1,e2⟩:=hk n hn hkn (fun ht=>hne ⟨rfl,by rw [← hi];exact ht⟩);have:=iD (bA hd d') hu hm;rw [e1,hi] at this;unfold bM;rw [this];simpa using e2
 · have e1:fA (f.set dev.toNat d') a=fA f a:=by
    have h0:=(jK hd).1;have h1:=(jK hde).1;unfold fA;rw [if_neg (by omega),if_neg (by omega),List.getElem?_set];rw [if_neg (by omega)]
   have e2:aD (f.set dev.toNat d') a b=aD f a b:=(by unfold aD;rw [e1]);unfold bM at h ⊢;rw [e2];exact h
theorem yX.keep {f f' :List Dv} {dev ino:Int} {nm:ByteArray} {n:Nd} (h:FOk f) (hm:yX f dev ino nm n f') (T:Int→Prop):lS dev T f f' :=by
 have h9:=h.make hm;obtain ⟨hp,htg,hl,hfu,d,hd,hlen,hnx,rfl⟩:=hm;obtain ⟨p,hpn,hpk,hnm⟩:=bB hp;obtain ⟨d2,hd2,hpm,hpi⟩:=aG hpn;rw [hd] at hd2;cases hd2;have hok:=h.2.2 d (bz hd);have hu:((d.ns ++ [iF d n ino]).map (·.ino)).Nodup:=by
  rw [List.map_append,List.nodup_append];refine ⟨hok.uniq,by simp,fun a ha b hb=>?_⟩;obtain ⟨m,hm,e1⟩:=List.mem_map.1 ha;have hb:b=d.nx:=by simpa [iF] using hb
  have:=(hok.rng m hm).2;rw [hb, ← e1];show m.ino≠d.nx;omega
 rw [dU hd,bX (bA hd _) hu (List.mem_append_left _ hpm) hpi,List.set_set];exact fM hd ((tF T d _ _).trans (ek T _ _ _ _)) (bT hu)
theorem yY.keep {f f' :List Dv} {dev ino ib mr:Int} {nm:ByteArray} (h:FOk f) (hm:yY f dev ino nm ib mr f') (T:Int→Prop):lS dev T f f' :=by
 obtain ⟨hp,hl,hfu,rfl,_,rfl⟩:=hm;obtain ⟨p,hpn,hpk,hnm⟩:=bB hp;obtain ⟨d,hd,hpm,hpi⟩:=aG hpn;have hok:=h.2.2 d (bz hd);rw [bX hd hok.uniq hpm hpi];exact fM hd (ek T _ _ _ _) (bT hok.uniq)
theorem kT.keep {f f' :List Dv} {dev ino t:Int} {nm:ByteArray} (h:FOk f) (hm:kT f dev ino nm t f'):lS dev (fun j=>j=t) f f' :=by
 obtain ⟨hp,hl,he,rfl⟩:=hm;obtain ⟨p,hpn,hpk,hnm⟩:=bB hp;obtain ⟨d,hd,hpm,hpi⟩:=aG hpn;have hok:=h.2.2 d (bz hd);rw [bX hd hok.uniq hpm hpi,gZ (bA hd _),List.set_set];exact fM hd ((ek _ _ _ _ _).trans (pg _ _)) (nJ (bT hok.uniq))
theorem yL.keep {f f' :List Dv} {dev ino mode uid gid:Int} (h:FOk f) (hm:yL f dev ino mode uid gid f') (T:Int→Prop):lS dev T f f' :=by
 obtain ⟨k,hk,rfl⟩:=hm;cases hd:fA f dev with
 | none=>unfold fD at hk;rw [hd] at hk;cases hk
 | some d=>
  have hk' :jh d.ns ino=some k:=by unfold fD at hk;rw [hd] at hk;exact hk
  obtain ⟨hkl,hki⟩:=iU hk';have hok:=h.2.2 d (bz hd);rw [dU hd,jm hok.uniq hkl hki];refine fM hd (kV T d _ _ fun _=>⟨rfl,rfl⟩) ?_;rw [iB (h:=lI mode uid gid) (fun _=>rfl)];exact hok.uniq
theorem kU.keep {f f' :List Dv} {dev i k t:Int} {nm nm2:ByteArray} (h:FOk f) (hm:kU f dev i nm k nm2 t f'):lS dev (fun j=>cB f dev k nm2=(0,dev,j)∧j≠t) f f' :=by
 obtain ⟨hp,hp2,hl,hbe,rfl | ⟨o,ho,f1,hf1,hf'⟩⟩:=hm
 · exact lS.refl _ _ _
 obtain ⟨p,hpn,hpk,hnm⟩:=bB hp;obtain ⟨q,hqn,hqk,Jp⟩:=bB hp2;obtain ⟨d,hd,hpm,hpi⟩:=aG hpn;obtain ⟨d2,hd2,hqm,hqi⟩:=aG hqn;rw [hd] at hd2;cases hd2;have hok:=h.2.2 d (bz hd);obtain ⟨q',hq',q1,_⟩:=gB (i:=i) (nm:=nm) (new:=0) hqm;have h1:iT f dev i nm 0=f.set dev.toNat (opE d i nm 0):=bX hd hok.uniq hpm hpi nm 0;have h2:iT (iT f dev i nm 0) dev k nm2 t=f.set dev.toNat (opE (opE d i nm 0) k nm2 t):=by
   rw [h1,bX (bA hd _) (bT hok.uniq) hq' (by rw [q1,hqi]),List.set_set]
 have h3:f1=f.set dev.toNat (opO (opE (opE d i nm 0) k nm2 t) o):=by
   rw [hf1];cases o with
   | none=>exact h2
   | some y=>show lL _ _ _=_;rw [h2,gZ (bA hd _),List.set_set];rfl
 have hu3:((opO (opE (opE d i nm 0) k nm2 t) o).ns.map (·.ino)).Nodup:=by
   cases o with
   | none=>exact bT (bT hok.uniq)
   | some y=>exact nJ (bT (bT hok.uniq))
 have hk3:lQ (fun j=>cB f dev k nm2=(0,dev,j)∧j≠t) d (opO (opE (opE d i nm 0) k nm2 t) o):=by
   cases o with
   | none=>exact (ek _ _ _ _ _).trans (ek _ _ _ _ _)
   | some y=>
    refine ((ek _ _ _ _ _).trans (ek _ _ _ _ _)).trans fun n hn hkn ht=>pg _ y n hn hkn fun e=>ht ?_;rw [e];exact ⟨ho.1,ho.2.1⟩
 split at hf'
 · obtain ⟨r,hr,hf'⟩:=hf';have hd3:fA f1 dev=some (opO (opE (opE d i nm 0) k nm2 t) o):=(by rw [h3];exact bA hd _);have hr' :jh (opO (opE (opE d i nm 0) k nm2 t) o).ns t=some r:=(by unfold fD at hr;rw [hd3] at hr;exact hr);obtain ⟨hrl,hri⟩:=iU hr';rw [hf',dU hd3,jm hu3 hrl hri,h3,List.set_set];refine fM hd (hk3.trans (kV _ _ _ _ fun _=>⟨rfl,rfl⟩)) ?_;rw [iB (h:=nH k) (fun _=>rfl)];exact hu3
 · rw [hf',h3];exact fM hd hk3 hu3
theorem SOk.files {f f' :List Dv} {ms:List Mt} (h:SOk f ms) (hf:FOk f') {dev:Int} {T:Int→Prop} (hk:lS dev T f f') (hT:∀ m∈ms,m.od=dev→¬ T m.oi):SOk f' ms:=
 ⟨hf,h.2.files hk.1 fun m hm=>hk.2 _ _ (h.2.J3 m hm) fun e=>hT m hm e.1 e.2⟩
inductive lT (f:List Dv) (ms:List Mt):Nat→Int→Int→List ByteArray→Prop
 | top:onF ms 0=none→bM f 0 1=true→lT f ms 1 0 1 []
 | over {h:Nat} {dev a b:Int} {L:List ByteArray} :bM f dev 1=true→dev≠0→onF ms dev=some (a,b)→lT f ms h a b L→lT f ms (h+1) dev 1 L
 | step {h:Nat} {dev ino:Int} {n:Nd} {L:List ByteArray} :aD f dev ino=some n→n.kind=2→ino≠1→fE ms dev=true→lT f ms h dev n.par L→lT f ms (h+1) dev ino (L ++ [dZ f dev ino])
def vF (f:List Dv) (dev:Int):Nat:=match fA f dev with | some d=>d.ns.length | none=>0
theorem lT.mono {f:List Dv} {ms:List Mt} {m:Mt} (hm:fE ms m.dev=false) {k:Nat} {dev ino:Int} {L:List ByteArray} (h:lT f ms k dev ino L):lT f (ms ++ [m]) k dev ino L:=by
 have h0:∀ x,fE ms x=true→onF (ms ++ [m]) x=onF ms x:=fun x hx=>by
  rw [nL];have:(m.dev == x)=false:=by
   cases hq:m.dev == x with
   | false=>rfl
   | true=>
    have e:m.dev=x:=(by simpa using hq);rw [e,hx] at hm;cases hm
  rw [this];cases onF ms x <;> rfl
 induction h with
 | top h1 h2=>exact .top (by rw [h0 0 (by unfold fE;simp)];exact h1) h2
 | over h1 hz h2 _ ih=>exact .over h1 hz (by rw [h0 _ (by unfold fE;rw [h2];rfl)];exact h2) ih
 | step h1 h2 h3 h4 _ ih=>exact .step h1 h2 h3 (by rw [jo,h4];rfl) ih
theorem tH {f:List Dv} {ms:List Mt} {dev:Int} {d:Dv} (hd:fA f dev=some d) (hu:(d.ns.map (·.ino)).Nodup) (hm:fE ms dev=true) {h:Nat} {L0:List ByteArray} (h0:lT f ms h dev 1 L0) {k:Nat} {i:Int} (hk:fG d.ns k i):∃ L,lT f ms (h+k) dev i L∧L.length=L0.length+k:=by
 induction hk with
 | root=>exact ⟨L0,h0,rfl⟩
 | @up n k hn hk h1 _ ih=>
  obtain ⟨L,hL,hl⟩:=ih;exact ⟨_, .step (iD hd hu hn) hk h1 hm hL,by rw [List.length_append,hl];rfl⟩
theorem MOk.FD {f:List Dv} (hf:FOk f) {ms:List Mt} (h:MOk f ms):∀ {dev ino:Int},fE ms dev=true→bM f dev ino=true→∃ L k,lT f ms k dev ino L∧L.length≤15 * (ms.length+1)∧k≤vF f 0+(ms.map (fun m=>vF f m.dev)).sum:=by
 have hgo:∀ {ms:List Mt} {dev ino:Int} {h:Nat} {L0:List ByteArray},fE ms dev=true→lT f ms (h+1) dev 1 L0→bM f dev ino=true→∃ L k,lT f ms k dev ino L∧L.length≤L0.length+15∧k≤h+vF f dev:=fun {ms dev ino h L0} hm h0 hd=>by
  obtain ⟨d,n,hdd,hn,rfl,hk,_⟩:=kI hd;have hok:=hf.2.2 d (bz hdd);obtain ⟨k,hk'⟩:=hok.reach n hn hk;obtain ⟨L,h1,h2⟩:=tH hdd hok.uniq hm h0 hk';have h3:=rO hok.uniq hok.Fu hk';have h4:=hok.few;have h5:vF f dev=d.ns.length:=by unfold vF;rw [hdd]
  exact ⟨L,_,h1,by omega,by omega⟩
 induction h with
 | nil=>
  intro dev ino hm hd;have:dev=0:=by
   have:(dev == 0)=true:=hm;simpa using this
  subst this;obtain ⟨d,_,hdd,_⟩:=kI hd;obtain ⟨L,k,h1,h2,h3⟩:=hgo (h:=0) (L0:= []) hm (.top rfl (hf.root hdd)) hd;exact ⟨L,k,h1,by simpa using h2,by simpa using h3⟩
 | @app ms m hms h1 h2 h3 h4 h5 ih=>
  intro dev ino hm hd;rw [List.length_append,List.length_singleton,List.map_append,List.sum_append];cases ho:fE ms dev with
  | true=>
   obtain ⟨L,k,h6,h7,h8⟩:=ih ho hd;exact ⟨L,k,h6.mono h3,by omega,by omega⟩
  | false=>
   have e:m.dev=dev:=by
    rw [jo,ho,Bool.false_or] at hm;simpa using hm
   obtain ⟨L,k,h6,h7,h8⟩:=ih h4 h5;obtain ⟨d,_,hdd,_⟩:=kI hd;have hon:onF (ms ++ [m]) dev=some (m.od,m.oi):=by
    rw [nL,e];have:onF ms dev=none:=by
     unfold fE at ho;rw [Bool.or_eq_false_iff] at ho;exact Option.isNone_iff_eq_none.1 (Option.isSome_eq_false_iff.1 ho.1)
    rw [this];simp
   obtain ⟨L2,k2,h9,h10,h11⟩:=hgo (ino:=ino) hm (.over (hf.root hdd) (by omega) hon (h6.mono h3)) hd;refine ⟨L2,k2,h9,by omega,?_⟩;have e2:(List.map (fun m=>vF f m.dev) [m]).sum=vF f dev:=(by simp [e]);omega
theorem vG {g:Int→Nat} :∀ {L M:List Int},L.Nodup→(∀ x∈L,x∈M)→(L.map g).sum≤(M.map g).sum
 | [],_,_,_=>Nat.zero_le _
 | a :: L,M,h,hs=>by
  rw [List.nodup_cons] at h;have ha:=hs a (List.mem_cons_self ..);have h2:∀ x∈L,x∈M.erase a:=fun x hx=>(List.mem_erase_of_ne (fun e=>h.1 (by rw [← e];exact hx))).2 (hs x (List.mem_cons_of_mem _ hx));have h3:=vG (g:=g) h.2 h2;have h4:(M.map g).sum=g a+((M.erase a).map g).sum:=by
   have hp:=(List.perm_cons_erase ha).map g;have:=hp.sum_nat;rw [this,List.map_cons,List.sum_cons]
  rw [List.map_cons,List.sum_cons,h4];omega
def yM (f:List Dv):Nat:=(f.map (fun d=>d.ns.length)).sum
theorem CO (f:List Dv):yM f=(((List.range f.length).map Int.ofNat).map (vF f)).sum:=by
 unfold yM;rw [List.map_map];congr 1;apply List.ext_getElem
 · simp
 · intro i h1 h2;simp only [List.length_map,List.length_range] at h1 h2;rw [List.getElem_map,List.getElem_map,List.getElem_range];show _=vF f (Int.ofNat i);unfold vF fA;rw [if_neg (by simp)];have:(Int.ofNat i).toNat=i:=rfl;rw [this,List.getElem?_eq_getElem h1]
theorem SOk.FD {f:List Dv} {ms:List Mt} (h:SOk f ms) {dev ino:Int} (hm:fE ms dev=true) (hd:bM f dev ino=true):∃ L k,lT f ms k dev ino L∧L.length≤45∧k≤yM f:=by
 obtain ⟨L,k,h1,h2,h3⟩:=h.2.FD h.1 hm hd;have h4:=h.2.few h.1.2.1;obtain ⟨h5,h6⟩:=h.2.len;refine ⟨L,k,h1,by omega,Nat.le_trans h3 ?_⟩;rw [CO];have:=vG (g:=vF f) (L:=0 :: ms.map (·.dev)) (M:=(List.range f.length).map Int.ofNat) (List.nodup_cons.2 ⟨fun hm0=>by
  obtain ⟨m,hmm,e⟩:=List.mem_map.1 hm0;have:=(h6 m hmm).1;omega,h5⟩) (fun x hx=>by
  rcases List.mem_cons.1 hx with rfl | hx
  · exact List.mem_map.2 ⟨0,List.mem_range.2 h.1.1,rfl⟩
  · obtain ⟨m,hmm,e⟩:=List.mem_map.1 hx;have:=h6 m hmm;exact List.mem_map.2 ⟨x.toNat,List.mem_range.2 (by omega),by show ((x.toNat:Nat):Int)=x;omega⟩)
 rw [List.map_cons,List.sum_cons,List.map_map] at this;exact this
def eX (d n:ByteArray):ByteArray:=if (decide (0 < d.size) && (d.data.toList.getLast? == some 47))=true then d ++ n else d ++ ⟨#[47]⟩ ++ n
theorem mE (d n:ByteArray):(eX d n).size≤d.size+1+n.size:=by
 unfold eX;split
 · rw [ByteArray.size_append];omega
 · rw [ByteArray.size_append,ByteArray.size_append];have:(⟨#[47]⟩:ByteArray).size=1:=rfl;omega
def iV (L:List ByteArray):ByteArray:=L.foldl eX ⟨#[47]⟩
theorem mF (L:List ByteArray) (x:ByteArray):iV (L ++ [x])=eX (iV L) x:=by
 unfold iV;rw [List.foldl_append];rfl
theorem eB:∀ (L:List ByteArray) (d:ByteArray),(∀ x∈L,x.size≤12)→(L.foldl eX d).size≤d.size+13 * L.length
 | [],d,_=>by simp
 | a :: L,d,h=>by
  have h1:=eB L (eX d a) (fun x hx=>h x (List.mem_cons_of_mem _ hx));have h2:=mE d a;have h3:=h a (List.mem_cons_self ..);rw [List.foldl_cons,List.length_cons];omega
theorem jO {L:List ByteArray} (h:∀ x∈L,x.size≤12) (hl:L.length≤45):(iV L).size≤586:=by
 have:=eB L ⟨#[47]⟩ h;have e:(⟨#[47]⟩:ByteArray).size=1:=rfl;unfold iV;omega
theorem lT.names {f:List Dv} (hf:FOk f) {ms:List Mt} {k:Nat} {dev ino:Int} {L:List ByteArray} (h:lT f ms k dev ino L):∀ x∈L,x.size≤12:=by
 induction h with
 | top=>intro x hx;cases hx
 | over _ _ _ _ ih=>exact ih
 | step _ _ _ _ _ ih=>
  intro x hx;rcases List.mem_append.1 hx with hx | hx
  · exact ih x hx
  · rw [List.mem_singleton.1 hx];exact jN hf _ _
end Go.Proofs.YtollifnnpihfdaaGreatDoor
