import Derived.Test.YtollifnnpihfdaaGreatDoorW06
set_option maxRecDepth 100000
set_option maxHeartbeats 64000000
set_option linter.all false
namespace Go.Proofs.YtollifnnpihfdaaGreatDoor
open Go.RowKit
section
variable {α:Type} {E:El α} {w:World} {base g n c:Nat} {L:List α}
theorem El.jO (E:El α) {x' :α} {j:Nat} {u:Value} :∀ (L:List α) (k:Nat) (hk:k < L.length),E.C x' =(E.C (L[k]'hk)).set j u→j < E.sz→(L.flatMap E.C).set (k * E.sz+j) u=(L.set k x').flatMap E.C
 | [],k,hk,_,_=>by simp at hk
 | p :: L,0,hk,h,hj=>by
  rw [List.flatMap_cons,List.set_cons_zero,List.flatMap_cons,Nat.zero_mul,Nat.zero_add,List.set_append_left _ _ (by rw [E.len];exact hj),h];rfl
 | p :: L,k+1,hk,h,hj=>by
  have ih:=El.jO E L k (by simp at hk;omega) h hj;have e:(k+1) * E.sz+j=E.sz+(k * E.sz+j):=by rw [Nat.succ_mul];omega
  rw [List.flatMap_cons,List.set_cons_succ,List.flatMap_cons,e,List.set_append_right _ _ (by rw [E.len];omega),E.len,show E.sz+(k * E.sz+j) - E.sz=k * E.sz+j by omega,ih]
theorem ax.put (h:ax E w base (.slice (some ⟨g,0,none⟩) n c) L) {k j:Nat} {u:Value} {x' :α} (hk:k < L.length) (hj:j < E.sz) (hx:E.C x' =(E.C (L[k]'hk)).set j u):
  ax E (w.setCell ⟨g,k * E.sz+j,none⟩ u) base (.slice (some ⟨g,0,none⟩) n c) (L.set k x'):=by
 have hl:L.length=n:=by
  obtain ⟨A,c',e,_⟩:=h.at;injection e with _ e _;exact e.symm
 have h2:=World.ownsRow.stored (show w.ownsRow base E.e E.sz (.slice (some ⟨g,0,none⟩) n c) n (L.flatMap E.C) by rw [← hl];unfold ax at h;rw [hl] at h ⊢;exact h) (k * E.sz+j) u;rw [El.jO E L k hk hx hj] at h2;unfold ax;rw [List.length_set,hl];exact h2.1
theorem ax.free (h:ax E w base (.slice (some ⟨g,0,none⟩) n c) L) (j:Nat):w.frozen? ⟨g,j,none⟩=false:=by
 have hl:L.length=n:=by
  obtain ⟨A,c',e,_⟩:=h.at;injection e with _ e _;exact e.symm
 exact World.ownsRow.frozenAt (show w.ownsRow base E.e E.sz (.slice (some ⟨g,0,none⟩) n c) n (L.flatMap E.C) by unfold ax at h;rw [hl] at h;exact h) j
theorem aU {A:Option Addr} (h:ax E w base (.slice A n c) L) (h0:0 < L.length):∃ g,A=some ⟨g,0,none⟩∧base≤g∧g < w.heap.size∧n=L.length:=by
 rcases Joins.ownsRow_forms h with ⟨e,e0⟩ | ⟨g,cap,e⟩
 · omega
 · injection e with e1 e2 _;subst e1;exact ⟨g,rfl,h.ge g rfl,h.lt g rfl,e2⟩
end
section
variable {w w' :World} {base:Nat} {v:Value} {ds:List Dm}
def kX (f:List Dv) (j:Nat) (h:Dv→Dv):List Dv:=f.modify j h
theorem jb (ds:List Dm) (j:Nat) (hj:j < ds.length) (d' :Dm) (h:Dv→Dv) (e:d'.dv=h (ds[j].dv)):(ds.set j d').map Dm.dv=kX (ds.map Dm.dv) j h:=by
 unfold kX;apply List.ext_getElem
 · simp
 · intro i h1 h2;simp only [List.getElem_map,List.getElem_set,List.getElem_modify];by_cases hij:j=i
   · subst hij;simp [e]
   · simp [hij]
theorem gP {α:Type} {l:List α} {j:Nat} {x y:α} (h:y∈l.set j x):y=x∨y∈l:=by
 rcases List.mem_or_eq_of_mem_set h with h | h
 · exact .inr h
 · exact .inl h
theorem aC.H9 (h:aC w base v ds) {j:Nat} (hj:j < ds.length) {d' :Dm} {row:Option Nat} (hg:w.grownBy w' row)
   (hv:ax EDv w' base v (ds.set j d')) (hd:ax ENd w' base d'.sl d'.xs∧d'.xs.length≤1000) (hx:∀ x∈d'.xs,ax EEn w' base x.sl x.nd.es∧iJ x.nd)
   (hn:∀ i (hi:i < ds.length),i≠j→∀ g,ds[i].sl.ownBlock=some g→row≠some g∧d'.sl.ownBlock≠some g) (he:∀ d∈ds,∀ x∈d.xs,∀ g,x.sl.ownBlock=some g→row≠some g):aC w' base v (ds.set j d'):=by
 have hin:∀ d∈ds.set j d',d=d' ∨∃ i,∃ hi:i < ds.length,i≠j∧d=ds[i]:=fun d hd=>by
   obtain ⟨i,hi,e⟩:=List.getElem_of_mem hd;rw [List.length_set] at hi;rw [List.getElem_set] at e;split at e
   · exact .inl e.symm
   · rename_i hne;exact .inr ⟨i,hi,fun e=>hne e.symm,e.symm⟩
 refine ⟨hv,by rw [List.length_set];exact h.few,fun d hd' =>?_,fun d hd' x hx' =>?_,?_⟩
 · rcases hin d hd' with rfl | ⟨i,hi,hne,rfl⟩
   · exact hd
   · exact ⟨(h.nodes _ (List.getElem_mem hi)).1.far hg (fun k e r=>(hn i hi hne k e).1 r),(h.nodes _ (List.getElem_mem hi)).2⟩
 · rcases hin d hd' with rfl | ⟨i,hi,hne,rfl⟩
   · exact hx x hx'
   · exact ⟨(h.bW _ (List.getElem_mem hi) x hx').1.far hg (fun k e r=>he _ (List.getElem_mem hi) x hx' k e r),(h.bW _ (List.getElem_mem hi) x hx').2⟩
 · have ha:=List.pairwise_iff_getElem.1 h.apart;refine List.pairwise_iff_getElem.2 fun i k hi hk hik g hgi hgk=>?_;rw [List.length_set] at hi hk;rw [List.getElem_set] at hgi hgk;split at hgi
   · split at hgk
     · omega
     · rename_i h1 h2;exact (hn k hk (fun e=>h2 e.symm) g hgk).2 hgi
   · split at hgk
     · rename_i h1 h2;exact (hn i hi (fun e=>h1 e.symm) g hgi).2 hgk
     · exact ha i k hi hk hik g hgi hgk
theorem aC.other (h:aC w base v ds) {i j:Nat} (hi:i < ds.length) (hj:j < ds.length) (hne:i≠j) {g:Nat} (e:ds[i].sl.ownBlock=some g):ds[j].sl.ownBlock≠some g:=by
 have ha:=List.pairwise_iff_getElem.1 h.apart;rcases Nat.lt_or_ge i j with hlt | hge
 · exact ha i j hi hj hlt g e
 · exact fun e2=>ha j i hj hi (by omega) g e2 e
theorem aC.J7 (h:aC w base v ds) {j k i g:Nat} {u:Value} (hj:j < ds.length) (hk:k < ds[j].xs.length) (hA:ds[j].A=some ⟨g,0,none⟩) {x' :Nm} (hi:i < 8) (hx:ENd.C x' =(ENd.C (ds[j].xs[k])).set i u) (hsz:iJ x'.nd)
   (ho:ax EEn w base x'.sl x'.nd.es):aC (w.setCell ⟨g,k * 8+i,none⟩ u) base v (ds.set j ⟨ds[j].nx,ds[j].xs.set k x',ds[j].A,ds[j].c⟩):=by
 have hd:=(h.nodes _ (List.getElem_mem hj));have hown:(ds[j].sl).ownBlock=some g:=by show (Value.slice ds[j].A _ _).ownBlock=_;rw [hA];rfl
 have hgc:=ak w g (k * 8+i) u;have hne:∀ {x:Nm},ax EEn w base x.sl x.nd.es→∀ q,x.sl.ownBlock=some q→some g≠some q:=fun {x} hx q e r=>by
   injection r with r;subst r;exact aB hx hd.1 (show (209:Nat)≠145 by decide) _ e hown
 have hv:ax EDv (w.setCell ⟨g,k * 8+i,none⟩ u) base v (ds.set j ⟨ds[j].nx,ds[j].xs.set k x',ds[j].A,ds[j].c⟩):=by
   have h1:=h.own.far hgc (fun q e r=>by
     injection r with r;subst r;exact aB h.own hd.1 (show (142:Nat)≠145 by decide) _ e hown)
   have e:(ds.set j ⟨ds[j].nx,ds[j].xs.set k x',ds[j].A,ds[j].c⟩).flatMap EDv.C=ds.flatMap EDv.C:=by
     have:=El.jO EDv (x' :=⟨ds[j].nx,ds[j].xs.set k x',ds[j].A,ds[j].c⟩) (j:=0) (u:= .int .i64 ds[j].nx) ds j hj (by show _=List.set [_,_] 0 _;simp [EDv]) (by show 0 < 2;omega);rw [← this];refine List.ext_getElem? fun q=>?_;rw [List.getElem?_set];split
     · rename_i hq;subst hq;have hf:=EDv.dI ds j hj 0 (by show 0 < 2;omega);split
       · rw [hf];rfl
       · rename_i hlt;rw [List.getElem?_eq_none (by omega)]
     · rfl
   unfold ax at h1 ⊢;rw [e,List.length_set];exact h1
 refine h.H9 hj hgc hv ⟨?_,?_⟩ ?_ ?_ ?_
 · show ax ENd _ base (.slice ds[j].A (ds[j].xs.set k x').length ds[j].c) (ds[j].xs.set k x');have h1:ax ENd w base (.slice ds[j].A ds[j].xs.length ds[j].c) ds[j].xs:=hd.1;rw [hA] at h1 ⊢;rw [List.length_set];exact h1.put hk (by show i < 8;exact hi) hx
 · show (ds[j].xs.set k x').length≤1000;rw [List.length_set];exact hd.2
 · intro y hy;rcases gP hy with rfl | hy
   · exact ⟨ho.far hgc (fun q e r=>hne ho q e r),hsz⟩
   · have h2:=h.bW _ (List.getElem_mem hj) y hy;exact ⟨h2.1.far hgc (fun q e r=>hne h2.1 q e r),h2.2⟩
 · intro q hq hqj g' e;refine ⟨fun r=>?_,?_⟩
   · injection r with r;subst r;exact h.other hq hj hqj e hown
   · intro r;exact h.other hq hj hqj e (by
       have r:(Value.slice ds[j].A (ds[j].xs.set k x').length ds[j].c).ownBlock=some g' :=r;show (Value.slice ds[j].A _ _).ownBlock=_;rw [hA] at r ⊢;exact r)
 · intro d hd' x hx' q e r;exact hne (h.bW d hd' x hx').1 q e r
end
def geB (a b:ByteArray):Bool:= !(Op.bytesLess a.toList b.toList)
def fK (nm:ByteArray) (new:Int):Bool→List En→List En
 | b, []=>if b then [] else [⟨nm,new⟩]
 | b,e :: r=>(if !b && geB e.nm nm then [⟨nm,new⟩] else []) ++ ((if e.nm.toList == nm.toList then [] else [e]) ++ fK nm new (b || geB e.nm nm) r)
def nE (nm:ByteArray) (new:Int) (n:Nd):Nd:= { n with es:=fK nm new (new == 0) n.es }
def sD (d:Dv) (k:Nat) (h:Nd→Nd):Dv:= { d with ns:=d.ns.modify k h }
def iw (f:List Dv) (dev ino:Int) (nm:ByteArray) (new:Int):List Dv:=
 match eT f dev ino with
 | some k=>kX f dev.toNat (fun d=>sD d k (nE nm new))
 | none=>f
theorem mf (nm:ByteArray) (new:Int):∀ (b:Bool) (l:List En),(fK nm new b l).length≤l.length+1∧(b=true→(fK nm new b l).length≤l.length)
 | true, []=>⟨Nat.zero_le _,fun _=>Nat.zero_le _⟩
 | false, []=>⟨Nat.le_refl _,fun h=>by cases h⟩
 | b,e :: r=>by
  have h1:=mf nm new (b || geB e.nm nm) r;have h2:(if e.nm.toList == nm.toList then ([]:List En) else [e]).length≤1:=by split <;> simp
  unfold fK;rw [List.length_append,List.length_append,List.length_cons];cases b with
  | true=>
   have h3:=h1.2 rfl;simp only [Bool.not_true,Bool.false_and,Bool.false_eq_true,if_false,List.length_nil];exact ⟨by omega,fun _=>by omega⟩
  | false=>
   refine ⟨?_,fun h=>by cases h⟩;cases hg:geB e.nm nm with
   | true=>
    rw [hg] at h1;have h3:=h1.2 rfl;simp only [Bool.not_false,Bool.and_self,if_true,List.length_cons,List.length_nil];simp only [Bool.or_true] at *;omega
   | false=>
    simp only [Bool.not_false,Bool.and_false,Bool.false_eq_true,if_false,List.length_nil];rw [hg] at h1;have h4:=h1.1;simp only [Bool.or_false] at *;omega
theorem kZ (nm:ByteArray) (new:Int) (hm:nm.size≤1000):∀ (b:Bool) (l:List En),(∀ x∈l,x.nm.size≤1000)→∀ x∈fK nm new b l,x.nm.size≤1000
 | b, [],_,x,hx=>by
  unfold fK at hx;split at hx
  · cases hx
  · rw [List.mem_singleton.1 hx];exact hm
 | b,e :: r,h,x,hx=>by
  unfold fK at hx;rcases List.mem_append.1 hx with hx | hx
  · split at hx
    · rw [List.mem_singleton.1 hx];exact hm
    · cases hx
  · rcases List.mem_append.1 hx with hx | hx
    · split at hx
      · cases hx
      · rw [List.mem_singleton.1 hx];exact h e (List.mem_cons_self ..)
    · exact kZ nm new hm _ r (fun y hy=>h y (List.mem_cons_of_mem _ hy)) x hx
def Af (nm:ByteArray) (new:Int) (b:Bool) (e:En):List En:=if !b && geB e.nm nm then [⟨nm,new⟩] else []
def Ah (nm:ByteArray) (e:En):List En:=if e.nm.toList == nm.toList then [] else [e]
theorem Aj (nm:ByteArray) (new:Int) (b:Bool) (l:List En) (k:Nat) (hk:k < l.length):fK nm new b (l.drop k)=Af nm new b l[k] ++ (Ah nm l[k] ++ fK nm new (b || geB l[k].nm nm) (l.drop (k+1))):=by
 rw [List.drop_eq_getElem_cons hk];rfl
section
variable {w w' :World} {base:Nat} {v:Value} {ds:List Dm}
theorem aC.J9 {g n c:Nat} (h:aC w base (.slice (some ⟨g,0,none⟩) n c) ds) {j i:Nat} {u:Value} (hj:j < ds.length) {d' :Dm} (hi:i < 2) (hx:EDv.C d' =(EDv.C (ds[j])).set i u)
  (hd:ax ENd w base d'.sl d'.xs∧d'.xs.length≤1000) (hxs:∀ x∈d'.xs,ax EEn w base x.sl x.nd.es∧iJ x.nd)
  (hn:∀ k (hk:k < ds.length),k≠j→∀ q,ds[k].sl.ownBlock=some q→d'.sl.ownBlock≠some q):aC (w.setCell ⟨g,j * 2+i,none⟩ u) base (.slice (some ⟨g,0,none⟩) n c) (ds.set j d'):=by
 have hgc:=ak w g (j * 2+i) u;have hne:∀ {x:Nm},ax EEn w base x.sl x.nd.es→∀ q,x.sl.ownBlock=some q→some g≠some q:=fun {x} hx q e r=>by
  injection r with r;subst r;exact aB hx h.own (show (209:Nat)≠142 by decide) _ e rfl
 have hne2:∀ {d:Dm},ax ENd w base d.sl d.xs→∀ q,d.sl.ownBlock=some q→some g≠some q:=fun {d} hx q e r=>by
  injection r with r;subst r;exact aB hx h.own (show (145:Nat)≠142 by decide) _ e rfl
 refine h.H9 hj hgc (h.own.put hj (by show i < 2;exact hi) hx) ⟨hd.1.far hgc (fun q e r=>hne2 hd.1 q e r),hd.2⟩ (fun x hx' =>⟨(hxs x hx').1.far hgc (fun q e r=>hne (hxs x hx').1 q e r),(hxs x hx').2⟩) (fun k hk hkj q e=>⟨fun r=>hne2 (h.nodes _ (List.getElem_mem hk)).1 q e r,hn k hk hkj q e⟩) (fun d hd' x hx' q e r=>hne (h.bW d hd' x hx').1 q e r)
theorem aC.K7 (h:aC w base v ds) {j:Nat} (hj:j < ds.length) {d' :Dm} (hv:ax EDv w' base v (ds.set j d')) (hd:ax ENd w' base d'.sl d'.xs∧d'.xs.length≤1000) (hx:∀ x∈d'.xs,ax EEn w' base x.sl x.nd.es∧iJ x.nd)
   (ho:∀ i (hi:i < ds.length),i≠j→ax ENd w' base ds[i].sl ds[i].xs) (he:∀ d∈ds,∀ x∈d.xs,ax EEn w' base x.sl x.nd.es)
   (hn:∀ i (hi:i < ds.length),i≠j→∀ g,ds[i].sl.ownBlock=some g→d'.sl.ownBlock≠some g):aC w' base v (ds.set j d'):=by
 have hin:∀ d∈ds.set j d',d=d' ∨∃ i,∃ hi:i < ds.length,i≠j∧d=ds[i]:=fun d hd=>by
   obtain ⟨i,hi,e⟩:=List.getElem_of_mem hd;rw [List.length_set] at hi;rw [List.getElem_set] at e;split at e
   · exact .inl e.symm
   · rename_i hne;exact .inr ⟨i,hi,fun e=>hne e.symm,e.symm⟩
 refine ⟨hv,by rw [List.length_set];exact h.few,fun d hd' =>?_,fun d hd' x hx' =>?_,?_⟩
 · rcases hin d hd' with rfl | ⟨i,hi,hne,rfl⟩
   · exact hd
   · exact ⟨ho i hi hne,(h.nodes _ (List.getElem_mem hi)).2⟩
 · rcases hin d hd' with rfl | ⟨i,hi,hne,rfl⟩
   · exact hx x hx'
   · exact ⟨he _ (List.getElem_mem hi) x hx',(h.bW _ (List.getElem_mem hi) x hx').2⟩
 · have ha:=List.pairwise_iff_getElem.1 h.apart;refine List.pairwise_iff_getElem.2 fun i k hi hk hik g hgi hgk=>?_;rw [List.length_set] at hi hk;rw [List.getElem_set] at hgi hgk;split at hgi
   · split at hgk
     · omega
     · rename_i h1 h2;exact hn k hk (fun e=>h2 e.symm) g hgk hgi
   · split at hgk
     · rename_i h1 h2;exact hn i hi (fun e=>h1 e.symm) g hgi hgk
     · exact ha i k hi hk hik g hgi hgk
theorem aC.addN {g n c:Nat} (h:aC w base (.slice (some ⟨g,0,none⟩) n c) ds) {j:Nat} (hj:j < ds.length) {d:Dm} (hdj:d=ds[j]) {x:Nm} {A9:Option Addr} {n9 c9:Nat} (hn9:n9=(d.xs ++ [x]).length)
   (ho9:ax ENd w' base (.slice A9 n9 c9) (d.xs ++ [x])) (hg9:w.grownBy w' d.sl.ownBlock) (hat:(Value.slice A9 n9 c9).ownBlock=d.sl.ownBlock∨(Value.slice A9 n9 c9).ownBlock=some w.heap.size)
   (hl:d.xs.length≤999) (hx:x.nd.es= []∧x.A=none∧x.c=0) (hsz:iJ x.nd):
   aC (w'.setCell ⟨g,j * 2+1,none⟩ (.slice A9 n9 c9)) base (.slice (some ⟨g,0,none⟩) n c) (ds.set j ⟨d.nx,d.xs ++ [x],A9,c9⟩):=by
 subst hdj;subst hn9;have hd:=h.nodes _ (List.getElem_mem hj);have hgc:=ak w' g (j * 2+1) (.slice A9 (ds[j].xs ++ [x]).length c9);have hv1:ax EDv w' base (.slice (some ⟨g,0,none⟩) n c) ds:=h.own.far hg9 fun k e r=>aB h.own hd.1 (show (142:Nat)≠145 by decide) k e r;have hv2:ax EDv (w'.setCell ⟨g,j * 2+1,none⟩ (.slice A9 (ds[j].xs ++ [x]).length c9)) base (.slice (some ⟨g,0,none⟩) n c) (ds.set j ⟨ds[j].nx,ds[j].xs ++ [x],A9,c9⟩):=hv1.put hj (by show 1 < 2;omega) rfl;have hne2:∀ {d:Dm},ax ENd w' base d.sl d.xs→ax ENd (w'.setCell ⟨g,j * 2+1,none⟩ (.slice A9 (ds[j].xs ++ [x]).length c9)) base d.sl d.xs:=fun {d} hx=>hx.far hgc fun q e r=>by
   injection r with r;subst r;exact aB hx hv1 (show (145:Nat)≠142 by decide) _ e rfl
 have hne1:∀ {y:Nm},ax EEn w base y.sl y.nd.es→ax EEn (w'.setCell ⟨g,j * 2+1,none⟩ (.slice A9 (ds[j].xs ++ [x]).length c9)) base y.sl y.nd.es:=fun {y} hy=>by
   have h1:=hy.far hg9 fun q e r=>aB hy hd.1 (show (209:Nat)≠145 by decide) q e r;exact h1.far hgc fun q e r=>by
     injection r with r;subst r;exact aB h1 hv1 (show (209:Nat)≠142 by decide) _ e rfl
 refine h.K7 hj hv2 ⟨hne2 (d:=⟨ds[j].nx,ds[j].xs ++ [x],A9,c9⟩) ho9,by show (ds[j].xs ++ [x]).length≤1000;rw [List.length_append,List.length_singleton];omega⟩ (fun y hy=>?_) (fun i hi hij=>hne2 ((h.nodes _ (List.getElem_mem hi)).1.far hg9 fun q e r=>h.other hi hj hij e r)) (fun d hdm y hy=>hne1 (h.bW d hdm y hy).1) (fun i hi hij q e r=>?_)
 · rcases List.mem_append.1 hy with hy | hy
   · exact ⟨hne1 (h.bW _ (List.getElem_mem hj) y hy).1,(h.bW _ (List.getElem_mem hj) y hy).2⟩
   · rw [List.mem_singleton.1 hy];obtain ⟨e1,e2,e3⟩:=hx;refine ⟨?_,hsz⟩;show ax EEn _ base (.slice x.A x.nd.es.length x.c) x.nd.es;rw [e1,e2,e3];exact ax.nil _ _
 · have r:(Value.slice A9 (ds[j].xs ++ [x]).length c9).ownBlock=some q:=r;rcases hat with h1 | h1
   · exact h.other hi hj hij e (by rw [← h1];exact r)
   · rw [h1] at r;injection r with r;have:=(h.nodes _ (List.getElem_mem hi)).1.lt q e;omega
end
structure Chg where
 dd:Int
 di:Int
 nm:ByteArray
 od:Int
 oi:Int
 nd:Int
 ni:Int
theorem Tryz.Ar:(Tryz.prog.info? 283).map (fun i=>(i.zero,i.size,i.bytes))=some (some (.agg #[.int .i64 0, .int .i64 0, .string ⟨#[]⟩, .int .i64 0, .int .i64 0, .int .i64 0, .int .i64 0]),7,64):=by kernel_rfl
abbrev chC (x:Chg):Array Value:=#[.int .i64 x.dd, .int .i64 x.di, .string x.nm, .int .i64 x.od, .int .i64 x.oi, .int .i64 x.nd, .int .i64 x.ni]
def kJ:El Chg where
 C x:= [.int .i64 x.dd, .int .i64 x.di, .string x.nm, .int .i64 x.od, .int .i64 x.oi, .int .i64 x.nd, .int .i64 x.ni]
 e:=283
 sl:=55
 sz:=7
 bs:=64
 len _:=rfl
 one x u hu:=by simp at hu;rcases hu with rfl | rfl | rfl | rfl | rfl | rfl | rfl <;> rfl
 pos:=by omega
 small:=by omega
 hu:=Tryz.underlying55
 info:=by
  obtain ⟨i0,h1,h2,h3,h4⟩:=info_parts Tryz.Ar;exact ⟨i0,_,h1,h2,h3,h4,rfl⟩
theorem sV {α:Type} (E:El α) (w:World) (base:Nat) (cs:Array Value) (x:α) (h:cs.toList=E.C x) (hb:base≤w.heap.size):ax E (w.alloc (.cells cs E.e)) base (.slice (some ⟨w.heap.size,0,none⟩) 1 1) [x]:=
 ⟨by simp [E.len], .inr ⟨w.heap.size,1,cs,rfl,hb,heap_alloc_new w _,Nat.le_refl _,by unfold maxLen;omega,by
  have:cs.size=(E.C x).length:=by rw [← h];simp
  rw [this,E.len];simp,by simp [h];exact List.take_of_length_le (by rw [E.len];exact Nat.le_refl _)⟩⟩
def MR (ds:List Dm) (dev ino:Int) (w:World) (e:Ending) (w' :World):Prop:=
 ((aF (ds.map Dm.dv) dev ino=none∧e= .returned (.pointer none))∨
  ∃ (x:Nm) (ad:Addr),aF (ds.map Dm.dv) dev ino=some x.nd∧e= .returned (.pointer (some ad))∧ad.block < w.heap.size∧(∀ j,j < 8→w.cell? (ad.add j)=(ENd.C x)[j]?)∧AtE EEn w w.heap.size x.A x.nd.es∧iJ x.nd)∧Below w.heap.size w w'
theorem Gg (dev ino:Int) (ds:List Dm) (A:Option Addr) (n c:Nat) (hn:n=ds.length) (w:World) (h:bV w w.heap.size A ds):
   Calls Tryz.prog 223 #[fsV A n c,flV dev ino] w (MR ds dev ino w):=by
 have HN:=Hd hn;have HB:=Hd (show Below w.heap.size w ((w.alloc (.cells #[.slice A n c] 28)).alloc (.cells #[.int .i64 dev, .int .i64 ino] 44)) from ((Below.refl w.heap.size w).alloc (Nat.le_refl _) _).alloc (by simp) _);have HF:=Hd (h.below HB.o);have HF0:=Hd h;clear h hn;by_cases h0:dev < 0
 · have HR:=Hd (show aF (ds.map Dm.dv) dev ino=none by unfold aF;rw [iL (.inl h0)];rfl);go_in;go_wp2_with fail;go_ret;exact ⟨.inl ⟨HR.o,rfl⟩,HB.o⟩
 have h0' :¬ dev < 0:=h0;by_cases h1:(n:Int)≤dev
 · have HR:=Hd (show aF (ds.map Dm.dv) dev ino=none by unfold aF;rw [iL (.inr (by rw [← HN.o];exact h1))];rfl);go_in;go_wp2_with fail;go_ret;exact ⟨.inl ⟨HR.o,rfl⟩,HB.o⟩
 obtain ⟨k,rfl⟩:∃ k:Nat,dev=k:=⟨dev.toNat,by omega⟩;have hk:k < ds.length:=by rw [← HN.o];omega
 have k1:(k:Int) < (n:Int):=by omega
 have k2:(0:Int)≤(k:Int):=by omega
 have HI:=Hd (show aF (ds.map Dm.dv) (k:Int) ino=(ds[k].xs.map (·.nd)).find? (fun n=>n.ino == ino) by
   unfold aF;rw [dC (by omega) (by rw [Int.toNat_natCast];exact hk)];rfl)
 have HD:=Hd (HF.o.nodes ds[k] (List.getElem_mem hk));have HD0:=Hd (HF0.o.nodes ds[k] (List.getElem_mem hk));have HE0:=Hd (HF0.o.bW ds[k] (List.getElem_mem hk));obtain ⟨ad,rfl,hab,hcx⟩:=HF.o.at_ k hk;obtain ⟨s0,s1⟩:=bK (a:=ad.add (k * 2)) hcx;clear hcx h0 h1;generalize ds[k]=d at *;go_in;go_wp2_with fail;generalize hW:(w.alloc (.cells #[.slice (some ad) n c] 28)).alloc (.cells #[.int .i64 (k:Int), .int .i64 ino] 44)=W at *;have q1:W.cell? ⟨w.heap.size+1,1,none⟩=some (.int .i64 ino):=by
   rw [← hW];have:=(Blk.new (w.alloc (.cells #[.slice (some ad) n c] 28)) #[.int .i64 (k:Int), .int .i64 ino] 44).cell 1;simpa using this
 clear hW s0 s1;go_loopw [27] (fun i wr=>∃ j t:Nat,j≤d.xs.length∧i= .int .i64 j∧wr=W.drewN t∧∀ q (hq:q < j) (hl:q < d.xs.length),(d.xs[q].nd.ino == ino)=false) (fun i _=>d.xs.length - (intOf i).toNat);case atStart=>exact ⟨0,0,Nat.zero_le _,rfl,rfl,fun q hq=>by omega⟩
 case round=>
   obtain ⟨j,t,hj,rfl,rfl,hno⟩:=hrel;have HNO:=Hd hno;clear hno;by_cases hlt:j < d.xs.length
   · have j1:(j:Int) < (d.xs.length:Int):=(by omega);have j2:(0:Int)≤(j:Int):=(by omega);have j3:=HD.o.2;have w1:wrap64 ((j:Int)+1)=(j:Int)+1:=IntWalk.wrap64_in _ (by omega);have w2:IntKind.i64.wrap ((j:Int)+1)=(j:Int)+1:=IntWalk.i64_in _ (by omega);obtain ⟨bd,hbd,hbb,hcy⟩:=HD.o.1 j hlt;obtain ⟨bd',JL,mi,KT⟩:=HD0.o.1 j hlt;obtain rfl:bd=bd' :=(by rw [hbd] at JL;injection JL);have HC:=Hd (show ∀ q,q < 8→w.cell? ((bd.add (j * 8)).add q)=(ENd.C d.xs[j])[q]? from KT);have HE:=Hd (HE0.o d.xs[j] (List.getElem_mem hlt));obtain ⟨t0,t1⟩:=cK (a:=bd.add (j * 8)) hcy;have HX:=Hd (fun h:(d.xs[j].nd.ino == ino)=true=>show (d.xs.map (·.nd)).find? (fun n=>n.ino == ino)=some d.xs[j].nd by
      rw [List.find?_eq_some_iff_getElem];exact ⟨h,j,by simpa using hlt,by simp,fun q hq=>by have:=HNO.o q hq (by omega);simpa using this⟩)
     have HY:=Hd (fun h:(d.xs[j].nd.ino == ino)=false=>show ∀ q (hq:q < j+1) (hl:q < d.xs.length),(d.xs[q].nd.ino == ino)=false from fun q hq hl=>by
      by_cases he:q=j
      · subst he;exact h
      · exact HNO.o q (by omega) hl)
     clear hcy KT JL t1 HNO;generalize d.xs[j]=x at *;rw [hbd];cases hb:(x.nd.ino == ino) with
     | true=>
      have HR:=Hd (HX.o hb);go_upto_region 7 with fail;go_quiet (fail);go_wp2_with fail;go_ret;exact ⟨.inr ⟨x,bd.add (j * 8),HI.o.trans HR.o,rfl,by rw [av];exact mi,HC.o,HE.o.1,HE.o.2⟩,by first | exact below_drewN HB.o _ | exact below_drewN (below_drewN HB.o _) _⟩
     | false=>
      have HR:=Hd (HY.o hb);go_upto_region 7 with fail;go_quiet (fail);go_wp2_with fail;go_roundw;case rel=>exact ⟨j+1,_,by omega,by go_num,rfl,HR.o⟩
      case measure=>simp [intOf];omega
   · have j1:¬ (j:Int) < (d.xs.length:Int):=(by omega);have HR:=Hd (show (d.xs.map (·.nd)).find? (fun n=>n.ino == ino)=none by
      rw [List.find?_eq_none];intro y hy;obtain ⟨z,hz,rfl⟩:=List.mem_map.1 hy;obtain ⟨q,hq,rfl⟩:=List.getElem_of_mem hz;rw [HNO.o q (by omega) hq];decide)
     go_wp2_with fail;go_ret;exact ⟨.inl ⟨HI.o.trans HR.o,rfl⟩,below_drewN HB.o _⟩
end Go.Proofs.YtollifnnpihfdaaGreatDoor
