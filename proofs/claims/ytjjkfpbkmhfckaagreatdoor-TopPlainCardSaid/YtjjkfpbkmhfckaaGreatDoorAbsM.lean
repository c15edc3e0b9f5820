import Derived.Test.YtjjkfpbkmhfckaaGreatDoorAbsG
import Derived.Deep.OwnRows
import Derived.Lib.AppendZerosOnto
set_option linter.unusedVariables false
set_option linter.unusedSimpArgs false
set_option maxHeartbeats 1000000
set_option maxRecDepth 10000
namespace Go.TravelAbs
open Go.RowKit Go.TravelBase
section
variable {P:Program} {ty:Ty} {X:Cx} {H:List (Nat × Blk)} {S:CSet} {m:RMap} {w:World}
def Post (X:Cx) (H:List (Nat × Blk)) (S:CSet) (m:RMap) (w:World) (out:Out) (r:Result Next):Prop :=
  ∃ v w' S' m',(r = .ok (.value v) w'∨(r = .ok .skip w'∧v=undef))∧Adv S m w S' m' w'∧Mem X (out.eff++H) S' m' w'∧VR w' S' m' out.v v
theorem Post.pure {out:Out} {r:Result Next} {v:Value} (hM:Mem X H S m w) (he:out.eff=[]) (hr:r = .ok (.value v) w) (hv:VR w S m out.v v):Post X H S m w out r :=
  ⟨v,w,S,m,.inl hr,Adv.refl _ _ _,by rw [he];exact hM,hv⟩
theorem zOK_iff {ti:TI} (h:zOK ti=true):ti.zero.length=ti.size∧(∀ v∈ti.zero,v.oneCell'=true)∧(ti.kind.row=true∨ti.size=1)∧0<ti.size:=by
  simp only [zOK,Bool.and_eq_true,beq_iff_eq,List.all_eq_true,Bool.or_eq_true,decide_eq_true_eq] at h;exact ⟨h.1.1.1,h.1.1.2,h.1.2,h.2⟩
theorem zeroA_cl {ti:TI} (h:zOK ti=true):(zeroA ti).cl=ti.zero.map .lit:=by
  obtain ⟨h1,h2,h3,h4⟩:=zOK_iff h;unfold zeroA;split
  · rfl
  · rename_i hr;have h5:ti.zero.length=1:=by rcases h3 with h3 | h3 <;> simp_all
    obtain ⟨z,hz⟩:=List.length_eq_one_iff.1 h5;rw [hz];rfl
theorem HA_one {es:Nat} {x:AV} {cur:Array Value} (hl:x.cl.length=es) (h:∀ (j:Nat) (y:AV),x.cl[j]? = some y → ∃ u,cur[j]? = some u∧VR w S m y u):HA w S m es (.li es [x]) cur:=by
  intro i hi;have:i=0:=by simp only [cN,List.length_cons,List.length_nil] at hi;omega
  subst this;refine ⟨hl,fun j y hy=>?_⟩;rw [Nat.zero_mul,Nat.zero_add];exact h j y hy
theorem alloc_ok (hT:TysOK P ty) (hM:Mem X H S m w) {e:TypeId} {ti:TI} (ht:ty e=some ti) {fr:Nat} (hfr:lk H fr=none) (hz:zOK ti=true) :
    Post X H S m w ⟨.ptr fr 0 0,[(fr,⟨.li ti.size [zeroA ti],0,false⟩)],zOK ti=true⟩ ((do pure (.value (← Instr.alloc e true (.tuple #[]))):Sem Next).run P w):=by
  obtain ⟨i,d,z,hi,hu,hs,hb,hzz,hcells,hk⟩:=(hT.1 _ _ ht).ok;obtain ⟨h1,h2,h3,h4⟩:=zOK_iff hz;have hcl:=zeroA_cl hz;have hsz:z.cells.size=1*ti.size:=by rw [← Array.length_toList,hcells,h1,Nat.one_mul]
  have hha:HA w S m ti.size (.li ti.size [zeroA ti]) z.cells:=by
    refine HA_one (by rw [hcl];simpa using h1) fun j y hy=>?_;rw [hcl,List.getElem?_map] at hy;obtain ⟨u,hu,rfl⟩:=Option.map_eq_some_iff.1 hy;refine ⟨u,?_,.lit _⟩;rw [← hcells] at hu;simpa using hu
  obtain ⟨hM',hadv⟩:=hM.new hfr e hsz (c:=.li ti.size [zeroA ti]) rfl (by simp [cN]) (by decide) hha;refine ⟨_,_,S,_,.inl ?_,hadv,hM',.ptr (i:=0) (off:=0) (r:=⟨w.heap.size,1,ti.size⟩) (by simp [mset])⟩;simp [Instr.alloc,zeroValue,typeInfo,hi,hzz,newVar,newRow]
theorem box_ok (hM:Mem X H S m w) {e:TypeId} {ti:TI} {x:AV} {v:Value} (hv:VR w S m x v) {fr:Nat} (hfr:lk H fr=none) (ho:okc x=true) (hl:x.cl.length=ti.size) (h0:0<ti.size) (vc:Prop) :
    Post X H S m w ⟨.ptr fr 0 0,[(fr,⟨.li ti.size [x],0,false⟩)],vc⟩ ((do pure (.value (← Instr.box e v)):Sem Next).run P w):=by
  obtain ⟨h1,h2,h3⟩:=cells_of hv ho;have hha:HA w S m ti.size (.li ti.size [x]) v.cells:=HA_one hl h2;obtain ⟨hM',hadv⟩:=hM.new hfr e (cap:=1) (es:=ti.size) (cur:=v.cells) (by rw [h1,hl,Nat.one_mul]) (c:=.li ti.size [x]) rfl (by simp [cN]) (by decide) hha;refine ⟨_,_,S,_,.inl ?_,hadv,hM',.ptr (i:=0) (off:=0) (r:=⟨w.heap.size,1,ti.size⟩) (by simp [mset])⟩;simp [Instr.box,newVar,newRow]
theorem ldA_ok (hT:TysOK P ty) {t:TypeId} {ti:TI} (ht:ty t=some ti) {x:AV} {off b o:Nat} (hc:∀ j y,x.cl[j]? = some y → ∃ u,w.cell? ⟨b,o+j,none⟩=some u∧VR w S m y u) (hvc:(ldA ti x off).2) :
    ∃ v,(Instr.loadAt t (.pointer (some ⟨b,o+off,none⟩))).run P w = .ok v w∧VR w S m (ldA ti x off).1 v:=by
  obtain ⟨i,d,z,hi,hu,hs,hb,hzz,hcells,hk⟩:=(hT.1 _ _ ht).ok;obtain ⟨r1,_⟩:=row_of (hT.1 _ _ ht);unfold ldA at hvc ⊢;cases hrow:ti.kind.row with
  | true =>
    simp only [hrow,if_true] at hvc ⊢;have hcell:∀ j,j<ti.size → ∃ u,w.cell? ⟨b,o+off+j,none⟩=some u:=by
      intro j hj;have hlt:off+j<x.cl.length:=by omega
      obtain ⟨u,h1,_⟩:=hc (off+j) _ (List.getElem?_eq_getElem hlt);exact ⟨u,by rw [Nat.add_assoc];exact h1⟩
    let cs:=(List.range ti.size).map fun j=>(w.cell? ⟨b,o+off+j,none⟩).getD undef
    have hcs:∀ j u,cs[j]? = some u→j<ti.size∧w.cell? ⟨b,o+off+j,none⟩=some u:=by
      intro j u hu;simp only [cs,List.getElem?_map] at hu;obtain ⟨k,h1,rfl⟩:=Option.map_eq_some_iff.1 hu;have hj:j<ti.size:=by have:=(List.getElem?_eq_some_iff.1 h1).1;simpa using this
      rw [List.getElem?_range hj] at h1;injection h1 with h1;subst h1;obtain ⟨u,h2⟩:=hcell j hj;rw [h2];exact ⟨hj,rfl⟩
    have hrun:=run_loadAt_mid (P:=P) w b (o+off) t cs d (fun j u hu=>(hcs j u hu).2) hu (by rw [hu,hrow] at r1;cases d <;> first | rfl | cases r1) (by simp [hi,hs,cs])
    refine ⟨_,hrun,.agg (by simp [cs];omega) fun j y u hy hu'=>?_⟩;have hu2:cs[j]? = some u:=by simpa using hu'
    obtain ⟨hj,h2⟩:=hcs j u hu2;rw [List.getElem?_take,if_pos hj,List.getElem?_drop] at hy;obtain ⟨u',h3,h4⟩:=hc _ y hy;rw [Nat.add_assoc] at h2;rw [h2] at h3;injection h3 with h3;rw [h3];exact h4
  | false =>
    simp only [hrow,Bool.false_eq_true,if_false] at hvc ⊢;obtain ⟨u,h1,h2⟩:=hc off _ (getD_of_lt (d:=zeroA ti) hvc);refine ⟨u,?_,h2⟩;have hagg:(isAgg t).run P w = .ok false w:=by
      rw [hu,hrow] at r1;unfold isAgg;rw [Sem.run_bind,run_underlying hu w];cases d <;> first | rfl | cases r1
    simp [Instr.loadAt,Instr.sureAddr,loadVar,hagg,load,Sem.run,h1]
theorem ld_ptr (hT:TysOK P ty) (hM:Mem X H S m w) {t:TypeId} {ti:TI} (ht:ty t=some ti) {k i off:Nat} {v:Value} (hv:VR w S m (.ptr k i off) v) {b:Blk} (hb:lk H k=some b) (hm:b.mode<3) (hi:i<cN b.c) (hvc:(ldA ti (cAt b.c i) off).2) (vc:Prop) :
    Post X H S m w ⟨(ldA ti (cAt b.c i) off).1,[],vc⟩ ((do pure (.value (← Instr.loadAt t v)):Sem Next).run P w):=by
  obtain ⟨r,hr,rfl⟩:=hv.ptr_inv;obtain ⟨r',h1,h2⟩:=hM.blk k b hb;rw [hr] at h1;injection h1 with h1;subst h1;obtain ⟨_,h4⟩:=(h2 hm).rd i hi;obtain ⟨u,h5,h6⟩:=ldA_ok hT ht (o:=i*r.es) (off:=off) h4 hvc;exact Post.pure hM rfl (by simp [h5]) h6
theorem ld_ep (hT:TysOK P ty) (hM:Mem X H S m w) {t:TypeId} {ti:TI} (ht:ty t=some ti) {x:AV} {off:Nat} {v:Value} (hv:VR w S m (.ep x off) v) (hvc:(ldA ti x off).2) (vc:Prop) :
    Post X H S m w ⟨(ldA ti x off).1,[],vc⟩ ((do pure (.value (← Instr.loadAt t v)):Sem Next).run P w):=by
  cases hv with
  | ep us hA h =>
    obtain ⟨u,h5,h6⟩:=ldA_ok hT ht (off:=off) (fun j y hy=>⟨us j,(hA j (List.getElem?_eq_some_iff.1 hy).1).2,h j y hy⟩) hvc;exact Post.pure hM rfl (by simp [h5]) h6
theorem run_storeAt_ok {t:TypeId} {ti:TI} (ht:TyOK P t ti) {b o:Nat} {v:Value} (hs:v.cells.size=ti.size) (h1:∀ u∈v.cells.toList,u.oneCell'=true)
    (hc:∀ j,j<ti.size→(w.cell? ⟨b,o+j,none⟩).isSome=true) (hf:∀ j,j<ti.size→w.frozen? ⟨b,o+j,none⟩=false) :
    (Instr.storeAt t (.pointer (some ⟨b,o,none⟩)) v).run P w = .ok () (w.setCells b o v.cells.toList):=by
  obtain ⟨i,d,z,hi,_,hsz,_⟩:=ht.ok;have hl:v.cells.toList.length=ti.size:=by simpa using hs
  have:=run_storeCells_cells (P:=P) b o v.cells.toList 0 w (fun j hj=>by simpa using hc j (by omega)) (fun j hj=>by simpa using hf j (by omega)) h1;simp only [Nat.add_zero] at this;simp [Instr.storeAt,Instr.sureAddr,storeVar,sizeOf,typeInfo,hi,hs,hsz,this]
theorem st_ok (hT:TysOK P ty) (hM:Mem X H S m w) {t:TypeId} {ti:TI} (ht:ty t=some ti) {k i off:Nat} {v u:Value} {y:AV} (hv:VR w S m (.ptr k i off) v) (hu:VR w S m y u) {b:Blk} (hb:lk H k=some b) (hm:b.mode=0) (hi:i<cN b.c)
    (hl:y.cl.length=ti.size) (h0:0<ti.size) (ho:off+ti.size≤cE b.c) (hok:okc y=true) (hby:isBy b.c=true→byteOK (putX (cAt b.c i) off y.cl)) (vc:Prop) :
    Post X H S m w ⟨.any,[(k,⟨setE b.c i (putX (cAt b.c i) off y.cl),0,b.ln⟩)],vc⟩ ((do Instr.storeAt t v u;pure .skip:Sem Next).run P w):=by
  obtain ⟨r,hr,rfl⟩:=hv.ptr_inv;obtain ⟨r',h1,h2⟩:=hM.blk k b hb;rw [hr] at h1;injection h1 with h1;subst h1;have hB:=h2 (by omega);obtain ⟨c1,c2,c3⟩:=cells_of hu hok;have hlen:=hB.len;have hes:=hB.es;obtain ⟨_,⟨cur,T,q2,q3⟩,_⟩:=hB.row (by omega) (by omega);obtain ⟨hxl,hxr⟩:=hB.rd i hi;have hvl:u.cells.toList.length=ti.size:=by rw [Array.length_toList,c1,hl]
  have hin:i*r.es+off+ti.size≤r.cap*r.es:=by
    have:(i+1)*r.es≤r.cap*r.es:=Nat.mul_le_mul_right _ (by omega);rw [Nat.add_mul] at this;omega
  have hcell:∀ j,j<ti.size→(w.cell? ⟨r.g,i*r.es+off+j,none⟩).isSome=true:=by
    intro j hj;have hlt:i*r.es+off+j<cur.size:=by omega
    unfold World.cell?;rw [q2];simp [hlt]
  have hfz:∀ j,j<ti.size→w.frozen? ⟨r.g,i*r.es+off+j,none⟩=false:=by
    intro j hj;unfold World.frozen?;rw [q2];simp
  have hrun:=run_storeAt_ok (P:=P) (w:=w) (hT.1 _ _ ht) (b:=r.g) (o:=i*r.es+off) (v:=u) (by rw [c1,hl]) c3 hcell hfz;have hyone:∀ z∈y.cl,z.one=true:=fun z hz=>List.all_eq_true.1 hok z hz;have hyl:y.cl ≠ []:=fun e=>by rw [e] at hl;simp at hl;omega
  have hcl:=putX_cl (x:=cAt b.c i) (off:=off) (ys:=y.cl) (by rw [hl,hxl];omega) hyl hyone;have hbyc:(∃ bs,b.c = .by_ bs)→byteOK (putX (cAt b.c i) off y.cl):=fun ⟨bs,e⟩=>hby (by rw [e];rfl);obtain ⟨n1,n2⟩:=setE_N b.c i (putX (cAt b.c i) off y.cl);have hput:=hM.put hb hr hm (c':=setE b.c i (putX (cAt b.c i) off y.cl)) (o:=i*r.es+off) (vs:=u.cells.toList) n1 n2 (fun e=>by rw [e] at hvl;simp at hvl;omega) (by omega) (by rw [hvl];exact hin) (fun p hp=>?_)
  · obtain ⟨hM',hadv⟩:=hput;exact ⟨undef,_,S,m,.inr ⟨by simp [hrun],rfl⟩,hadv,hM',.any _⟩
  · rw [n1] at hp;by_cases hpi:p=i
    · subst hpi;rw [setE_eq hi hbyc];refine ⟨by rw [hcl];simp;omega,fun j z hz=>?_⟩;rw [hcl] at hz;have hcase:∀ (j:Nat),(off≤j∧j<off+ti.size)∨(j<off∨off+ti.size≤j):=fun j=>by omega
      rcases hcase j with ⟨ha,hb'⟩ | hout
      · obtain ⟨d,rfl⟩:∃ d,j=off+d:=⟨j-off,by omega⟩;have hd:d<y.cl.length:=by omega
        have hz':y.cl[d]? = some z:=by
          rw [List.append_assoc,List.getElem?_append_right (by simp;omega),List.length_take,Nat.min_eq_left (by omega),Nat.add_sub_cancel_left,List.getElem?_append_left hd] at hz;exact hz
        obtain ⟨uu,h7,h8⟩:=c2 d z hz';refine ⟨uu,?_,h8⟩;have hdl:d<u.cells.toList.length:=by omega
        have:=World.cell?_setCells_in r.g u.cells.toList (p*r.es+off) w (fun q hq=>hcell q (by omega)) d hdl;rw [← Nat.add_assoc,this];have h9:u.cells.toList[d]? = some uu:=by simpa using h7
        rw [List.getElem?_eq_getElem hdl] at h9;exact h9
      · have hz':(cAt b.c p).cl[j]? = some z:=by
          rcases hout with hj | hj
          · rw [List.append_assoc,List.getElem?_append_left (by simp;omega),List.getElem?_take,if_pos hj] at hz;exact hz
          · rw [List.getElem?_append_right (by simp;omega),List.getElem?_drop] at hz;simp only [List.length_append,List.length_take] at hz;rw [hl,Nat.min_eq_left (by omega),show off+ti.size+(j-(off+ti.size))=j by omega] at hz;exact hz
        obtain ⟨uu,h7,h8⟩:=hxr j z hz';refine ⟨uu,?_,h8⟩;rw [World.cell?_setCells_out r.g _ _ _ _ (fun _ _=>by simp only;omega)];exact h7
    · rw [setE_ne hpi];obtain ⟨h5,h6⟩:=hB.rd p hp;refine ⟨h5,fun j z hz=>?_⟩;obtain ⟨uu,h7,h8⟩:=h6 j z hz;refine ⟨uu,?_,h8⟩;have hj:j<r.es:=by rw [← h5];exact (List.getElem?_eq_some_iff.1 hz).1
      rw [World.cell?_setCells_out r.g _ _ _ _ (fun _ _=>?_)]
      · exact h7
      · simp only
        rcases Nat.lt_or_gt_of_ne hpi with hlt | hgt
        · left;have:(p+1)*r.es≤i*r.es:=Nat.mul_le_mul_right _ hlt;rw [Nat.add_mul] at this;omega
        · right;have:(i+1)*r.es≤p*r.es:=Nat.mul_le_mul_right _ hgt;rw [Nat.add_mul] at this;omega
end
end Go.TravelAbs
namespace Go.TravelAbs
open Go.RowKit Go.TravelBase
section
variable {P:Program} {ty:Ty} {X:Cx} {H:List (Nat × Blk)} {S:CSet} {m:RMap} {w:World}
theorem catC_N {a b:AV} (h:catOK a b):cN (catC a b)=cN a+cN b∧cE (catC a b)=cE a:=by
  unfold catOK at h;split at h
  · simp [catC,cN,cE]
  · simp [catC,cN,cE]
  · simp [catC,cN,cE]
  · exact h.elim
theorem catC_lo {a b:AV} (h:catOK a b) {i:Nat} (hi:i<cN a):cAt (catC a b) i=cAt a i:=by
  unfold catOK at h;split at h
  · simp only [cN] at hi;simp only [catC,cAt,List.getD];rw [List.getElem?_append_left hi]
  · simp only [cN] at hi;simp only [catC,cAt,List.getD];rw [List.getElem?_append_left hi]
  · rfl
  · exact h.elim
theorem catC_hi {a b:AV} (h:catOK a b) {i:Nat} (hi:i<cN b):cAt (catC a b) (cN a+i)=cAt b i:=by
  unfold catOK at h;split at h
  · simp only [cN] at hi ⊢;simp only [catC,cAt,List.getD];rw [List.getElem?_append_right (by omega),Nat.add_sub_cancel_left]
  · simp only [cN] at hi ⊢;simp only [catC,cAt,List.getD];rw [List.getElem?_append_right (by omega),Nat.add_sub_cancel_left]
  · simp [cN] at hi
  · exact h.elim
theorem HA.cat {es:Nat} {a b:AV} {olds news:List Value} {zs:Array Value} (h:catOK a b) (ha:HA w S m es a olds.toArray) (hb:HA w S m es b news.toArray) (hl:olds.length=cN a*es) :
    HA w S m es (catC a b) ((olds++news).toArray++zs):=by
  intro i hi;rw [(catC_N h).1] at hi;rcases Nat.lt_or_ge i (cN a) with hlt | hge
  · rw [catC_lo h hlt];obtain ⟨h1,h2⟩:=ha i hlt;refine ⟨h1,fun j y hy=>?_⟩;obtain ⟨u,hu,hv⟩:=h2 j y hy;have hj:j<es:=by rw [← h1];exact (List.getElem?_eq_some_iff.1 hy).1
    have hlt':i*es+j<olds.length:=by rw [hl];exact row_mul hlt hj
    refine ⟨u,?_,hv⟩;rw [Array.getElem?_append_left (by simp;omega)];simp only [List.getElem?_toArray] at hu ⊢;rw [List.getElem?_append_left hlt'];exact hu
  · obtain ⟨d,rfl⟩:∃ d,i=cN a+d:=⟨i-cN a,by omega⟩;rw [catC_hi h (by omega)];obtain ⟨h1,h2⟩:=hb d (by omega);refine ⟨h1,fun j y hy=>?_⟩;obtain ⟨u,hu,hv⟩:=h2 j y hy;refine ⟨u,?_,hv⟩;simp only [List.getElem?_toArray] at hu;have hlt:=(List.getElem?_eq_some_iff.1 hu).1;rw [Array.getElem?_append_left (by simp;rw [Nat.add_mul];omega)];simp only [List.getElem?_toArray];rw [List.getElem?_append_right (by rw [Nat.add_mul];omega),hl,Nat.add_mul,show cN a*es+d*es+j-cN a*es=d*es+j by omega];exact hu
theorem emptyC_N (ti:TI):cN (emptyC ti)=0:=by unfold emptyC;split <;> rfl
theorem HA.nil {es:Nat} {c:AV} {cur:Array Value} (h:cN c=0):HA w S m es c cur:=fun i hi=>by omega
theorem drew_cell (b i:Nat):w.drew.cell? ⟨b,i,none⟩=w.cell? ⟨b,i,none⟩:=rfl
theorem Frm.drew (h:Frm X w):Frm X w.drew:=⟨h.os,h.tape,h.output,h.size,h.block,h.mark,h.lo⟩
theorem VR.drew {x:AV} {v:Value} (h:VR w S m x v):VR w.drew S m x v:=VR.mono (w:=w) (w':=w.drew) (fun _ _ hs=>⟨hs,rfl⟩) (fun _ _ q=>q) h
theorem Mem.drew (h:Mem X H S m w):Mem X H S m w.drew :=
  ⟨h.lm,h.frm.drew,h.s0,h.s1,h.slt,h.dom,fun k b hk=>by
    obtain ⟨r,h1,h2⟩:=h.blk k b hk;exact ⟨r,h1,fun hm=>(h2 hm).keep (fun _ _ hs=>⟨hs,rfl⟩) (fun _ _ q=>q) (fun _ _=>⟨rfl,fun _ q=>q⟩)⟩,h.inj,h.gl.mono fun _ _ hs=>⟨hs,rfl⟩⟩
theorem HA.drew {es:Nat} {c:AV} {cur:Array Value} (h:HA w S m es c cur):HA w.drew S m es c cur:=fun i hi=>by
  obtain ⟨h1,h2⟩:=h i hi;refine ⟨h1,fun j y hy=>?_⟩;obtain ⟨u,hu,hv⟩:=h2 j y hy;exact ⟨u,hu,hv.drew⟩
theorem grownCap_max {need old:Nat} {e:TypeId} (h:need≤maxLen):need≤grownCap w need old e∧grownCap w need old e≤maxLen:=by
  unfold grownCap Question.cut;simp only
  have hp:0<2 ^ 63-need:=by
    have:maxLen<2 ^ 63:=by decide
    omega
  have h2:=Nat.mod_lt (w.tape w.drawn (.appendCap need old e)) hp;have h3:maxLen=2 ^ 63-1:=by decide
  omega
theorem zeroCells_size (z:Array Value) (n:Nat):(Builtin.zeroCells z n).size=n*z.size:=by simp [Builtin.zeroCells]
theorem run_append_none (t tx ty e:TypeId) (i:TypeInfo) (ht:P.underlying t=some (.slice e)) (hi:P.info? e=some i) (base:Option Addr) (sLen sCap:Nat) (hle:sLen≤sCap) (x:Value) (hs:Src P i.size tx x 0 [] w) :
    (Builtin.append_ #[t,tx] ty #[.slice base sLen sCap,x]).run P w = .ok (.slice base sLen sCap) w:=by
  rcases hs.kind with ⟨e',hk⟩ | hk <;> cases base <;> simp [Builtin.append_,run_underlying ht,run_underlying hk,sizeOf,typeInfo,hi,hs.len,hle,hs.cells,storeCells]
theorem srcA_ok (hT:TysOK P ty) (hM:Mem X H S m w) {u:TypeId} {x c:AV} {v:Value} {vc:Prop} (hv:VR w S m x v) (h:srcA H (ty u) x=some (c,vc)) (hvc:vc) :
    ∀ es,(cN c=0∨cE c=es)→okL c → ∃ news:List Value,Src P es u v (cN c) news w∧HA w S m es c news.toArray:=by
  unfold srcA at h;split at h
  · rename_i e q1 q2 q3 x hu;intro es he hok;exact (asL_ok hM hv h hvc).news (P:=P) he hok (und_slice (hT.1 _ _ hu))
  · rename_i q1 q2 q3 s hu;injection h with h;simp only [Prod.mk.injEq] at h;obtain ⟨rfl,rfl⟩:=h;obtain rfl:=hv.lit_inv;obtain ⟨i,d,z,_,hu',_,_,_,_,hk⟩:=(hT.1 _ _ hu).ok;simp only [KOK] at hk;subst hk;intro es he hok;have hcl:∀ i,i<s.data.toList.length→((byteCells s).toArray[i]? = some (.int .u8 ((s.data.toList.getD i 0).toNat:Int))):=by
      intro i hi;have hi':i<s.data.size:=by simpa using hi
      simp [byteCells,List.getD,Array.getElem?_eq_getElem hi']
    have hln:cN (.by_ s.data.toList)=s.size:=by
      show s.data.toList.length=s.size;rw [Array.length_toList];rfl
    rcases Nat.eq_zero_or_pos (cN (.by_ s.data.toList)) with h0 | hpos
    · have hs:byteCells s=[]:=List.eq_nil_of_length_eq_zero (by rw [byteCells_length,← hln,h0]);refine ⟨[],?_,fun i hi=>by omega⟩;have:=Src.ofString (P:=P) (w:=w) hu' s;rw [hs,← hln,h0] at this;rw [h0];refine ⟨this.kind,this.len,?_,?_,by simp,fun _ h=>by cases h⟩
      · have:=this.cells;simp [Builtin.firstCells] at this ⊢;try exact this
      · have:=this.cellsD;simp [Builtin.firstCells] at this ⊢;try exact this
    · have he1:es=1:=by
        rcases he with he | he
        · omega
        · exact he.symm
      subst he1;refine ⟨byteCells s,by rw [hln];exact Src.ofString (P:=P) (w:=w) hu' s,fun i hi=>⟨rfl,fun j y hy=>?_⟩⟩;simp only [cAt,cl_bA] at hy;have hj:j=0:=by
        have:=(List.getElem?_eq_some_iff.1 hy).1;simp at this;exact this
      subst hj;simp only [List.getElem?_cons_zero,Option.some.injEq] at hy;subst hy;refine ⟨_,by rw [Nat.mul_one,Nat.add_zero];exact hcl i hi,?_⟩;exact .lit _
  · cases h
theorem bytesWorld_lt {e:TypeId} {s:ByteArray} {b:Nat} (hb:b<w.heap.size):(Lib.bytesWorld w e s).heap[b]? = w.heap[b]?:=Lib.bytesWorld_at_old w e s b hb
theorem Frm.bytes {X:Cx} {w:World} (h:Frm X w) (e:TypeId) (s:ByteArray):Frm X (Lib.bytesWorld w e s) :=
  ⟨h.os,h.tape,h.output,by have:=h.size;rw [Lib.bytesWorld_size];omega,fun g hg hl=>(bytesWorld_lt (by have:=h.size;omega)).trans (h.block g hg hl),fun g x hm=>(bytesWorld_lt (Array.getElem?_eq_some_iff.1 (h.mark g x hm)).1).trans (h.mark g x hm),by have:=h.lo;rw [Lib.bytesWorld_size];omega⟩
theorem conv_ok (hT:TysOK P ty) (hM:Mem X H S m w) {src dst e:TypeId} {a1 a2 a3 b1 b2 b3 c1 c2 c3:_} (hs:ty src=some ⟨.str,a1,a2,a3⟩) (hd:ty dst=some ⟨.slice e,b1,b2,b3⟩) (he:ty e=some ⟨.int .u8,c1,c2,c3⟩) {fr:Nat} (hfr:lk H fr=none) (s:ByteArray) (hmax:s.size≤maxLen) (vc:Prop) :
    Post X H S m w ⟨.by_ s.data.toList,[(fr,⟨.by_ [],3,false⟩)],vc⟩ ((do pure (.value (← convert src dst (.string s))):Sem Next).run P w):=by
  obtain ⟨_,d,_,_,hu1,_⟩:=(hT.1 _ _ hs).ok;have hu2:=und_slice (hT.1 _ _ hd);obtain ⟨_,d3,_,_,hu3,_,_,_,_,hk⟩:=(hT.1 _ _ he).ok;simp only [KOK] at hk;subst hk;have hrun:=Lib.run_convert_string_bytes (P:=P) w src dst e s hu1 hu2 hu3;obtain ⟨g1,g2⟩:=grownCap_max (w:=w) (need:=s.size) (old:=0) (e:=e) hmax;let S':CSet:=fun b o=>S b o∨(b=w.heap.size∧o<s.size)
  have hst:∀ b o,S b o→S' b o∧(Lib.bytesWorld w e s).cell? ⟨b,o,none⟩=w.cell? ⟨b,o,none⟩:=fun b o hb=>⟨.inl hb,Lib.bytesWorld_old w e s _ (hM.slt b o hb)⟩;have hM':=hM.upd (w':=Lib.bytesWorld w e s) (S':=S') fr ⟨.by_ [],3,false⟩ ⟨0,0,0⟩ (.inl (hM.dom fr hfr)) hst (hM.frm.bytes e s)
    (fun b o hb=>by
      rcases hb with hb | ⟨rfl,_⟩
      · exact hM.s1 b o hb
      · exact .inr (.inl hM.frm.size))
    (fun b o hb=>by
      rw [Lib.bytesWorld_size];rcases hb with hb | ⟨rfl,_⟩
      · have:=hM.slt b o hb;omega
      · omega)
    (fun j bj rj hj h1 h2 h3 h4=>by
      have hlt:=hM.lt h1 h2 h3 h4;exact ⟨bytesWorld_lt hlt,fun o q=>by
        rcases q with q | ⟨q,_⟩
        · exact q
        · omega,fun h=>by simp at h⟩)
    (fun h=>by simp at h)
  refine ⟨.slice (some ⟨w.heap.size,0,none⟩) s.size (grownCap w s.size 0 e),_,S',_,.inl (by simp [hrun]),⟨hst,mset_le (.inl (hM.dom fr hfr))⟩,hM',?_⟩;refine .by_ (by rw [Array.length_toList];rfl) g1 g2 (fun h=>by cases h) (.inr ⟨w.heap.size,0,rfl,fun i hi=>⟨.inr ⟨rfl,by omega⟩,?_⟩⟩);rw [Nat.zero_add];exact Lib.bytesWorld_cell w e s i hi
theorem append_nil_ok (hT:TysOK P ty) (hM:Mem X H S m w) {t u e:TypeId} {te:TI} (hu:P.underlying t=some (.slice e)) (hte:ty e=some te) {c:AV} {v:Value} (hN:∀ es,(cN c=0∨cE c=es)→okL c → ∃ news:List Value,Src P es u v (cN c) news w∧HA w S m es c news.toArray) {fr:Nat} (hfr:lk H fr=none)
    (hok:okL c) (hcat:catOK (emptyC te) c) (he:cN c=0∨cE c=te.size) (hb:cN c*te.bytes≤140737488355328) (hmax:cN c≤maxLen) (hE:cE (emptyC te)=te.size) (hz:zOK te=true) (T:TypeId) (vc:Prop) :
    Post X H S m w ⟨.sl fr te.size 0 (cN c),[(fr,⟨catC (emptyC te) c,0,false⟩)],vc⟩ ((do pure (.value (← Builtin.append_ #[t,u] T #[.slice none 0 0,v])):Sem Next).run P w):=by
  obtain ⟨i,d,z,hi,_,hs,hby,hzz,hcells,_⟩:=(hT.1 _ _ hte).ok;obtain ⟨n1,n2⟩:=catC_N hcat;rw [emptyC_N,Nat.zero_add] at n1;obtain ⟨news,hsrc,hha⟩:=hN _ he hok;rcases Nat.eq_zero_or_pos (cN c) with h0 | hpos
  · rw [h0] at hsrc;have hnil:news=[]:=List.eq_nil_of_length_eq_zero (by rw [hsrc.newsLen];simp);subst hnil;obtain ⟨hM',hadv⟩:=hM.newE hfr (c:=catC (emptyC te) c) (by omega);refine ⟨.slice none 0 0,_,S,_,.inl ?_,hadv,hM',?_⟩
    · have hrun:=run_append_none (P:=P) t u T e i hu hi none 0 0 (Nat.le_refl _) v (by rw [hs];exact hsrc);simp [hrun]
    · have hh:VR w S (mset m fr ⟨0,0,cE (catC (emptyC te) c)⟩) (.sl fr te.size 0 0) (.slice none 0 (0-0)):=.sl (r:=⟨0,0,cE (catC (emptyC te) c)⟩) (by simp [mset]) (by rw [n2];exact hE) (Nat.le_refl _) (Nat.zero_le _) (fun h=>by simp at h) (fun _=>rfl);show VR w S (mset m fr ⟨0,0,cE (catC (emptyC te) c)⟩) (.sl fr te.size 0 (cN c)) (.slice none 0 0);rw [h0];exact hh
  · have hgrow:=run_append_grow_src (P:=P) w t u T e i z hu hi hzz none 0 0 [] (run_firstCells_none w.drew i.size 0 0 0) v (cN c) news (by rw [hs];exact hsrc) (by omega) (by have:maxLen=9223372036854775807:=rfl;omega)
      (by rw [Nat.zero_add,hby];exact growslice_fits hpos hb)
    rw [Nat.zero_add] at hgrow;obtain ⟨g1,g2⟩:=grownCap_max (w:=w) (need:=cN c) (old:=0) (e:=e) hmax;have hcat':=HA.cat (olds:=[]) (zs:=Builtin.zeroCells z.cells (grownCap w (cN c) 0 e-cN c)) hcat (HA.nil (emptyC_N te)) hha.drew (by rw [emptyC_N];simp);obtain ⟨z1,_,_,z4⟩:=zOK_iff hz;have hzs:z.cells.size=te.size:=by rw [← Array.length_toList,hcells,z1]
    have hnl:news.length=cN c*te.size:=hsrc.newsLen;have hsize:((([]++news:List Value).toArray++Builtin.zeroCells z.cells (grownCap w (cN c) 0 e-cN c))).size=grownCap w (cN c) 0 e*te.size:=by
      rw [Array.size_append,zeroCells_size,hzs];simp only [List.nil_append,List.size_toArray,hnl];rw [← Nat.add_mul];congr 1
      omega
    obtain ⟨hM',hadv⟩:=hM.drew.new hfr e (c:=catC (emptyC te) c) (cap:=grownCap w (cN c) 0 e) (es:=te.size) hsize (by rw [n2];exact hE) (by omega) g2 hcat';refine ⟨.slice (some ⟨w.heap.size,0,none⟩) (cN c) (grownCap w (cN c) 0 e),_,S,_,.inl ?_,⟨fun b o hs=>(hadv.st b o hs),hadv.mp⟩,hM',?_⟩
    · simp [hgrow]
    · have:=VR.sl (w:=w.drew.alloc (.cells ((([]++news:List Value).toArray++Builtin.zeroCells z.cells (grownCap w (cN c) 0 e-cN c))) e)) (S:=S) (m:=mset m fr ⟨w.heap.size,grownCap w (cN c) 0 e,te.size⟩) (k:=fr) (es:=te.size) (i:=0) (n:=cN c) (r:=⟨w.heap.size,grownCap w (cN c) 0 e,te.size⟩) (A:=some ⟨w.heap.size,0,none⟩)
        (by simp [mset]) rfl (by simpa using g1) g2 (fun _=>by simp) (fun h=>by cases h)
      exact this
structure AppS (P:Program) (t u e:TypeId) (es:Nat) (v:Value) (n:Nat) (news:List Value) (w:World):Prop where
  newsLen:news.length=n*es
  atZ:∀ (i:TypeInfo) (T:TypeId),P.underlying t=some (.slice e)→P.info? e=some i→i.size=es→n=0 → ∀ (base:Option Addr) (sLen sCap:Nat),sLen≤sCap→(Builtin.append_ #[t,u] T #[.slice base sLen sCap,v]).run P w = .ok (.slice base sLen sCap) w
  atR:∀ (i:TypeInfo) (T:TypeId),P.underlying t=some (.slice e)→P.info? e=some i→i.size=es→n*i.bytes≤281474976710656→n≤maxLen → ∀ (b off sLen sCap:Nat),sLen+n≤sCap→(∀ j,j<news.length→(w.cell? ⟨b,off+sLen*i.size+j,none⟩).isSome=true)→(∀ j,j<news.length→w.frozen? ⟨b,off+sLen*i.size+j,none⟩=false) →
    (Builtin.append_ #[t,u] T #[.slice (some ⟨b,off,none⟩) sLen sCap,v]).run P w = .ok (.slice (some ⟨b,off,none⟩) (sLen+n) sCap) (w.setCells b (off+sLen*i.size) news)
  atG:∀ (i:TypeInfo) (T:TypeId) (z:Value),P.underlying t=some (.slice e)→P.info? e=some i→i.size=es→i.zero=some z→n*i.bytes≤281474976710656 → ∀ (base:Option Addr) (sLen sCap:Nat) (olds:List Value),sLen≤sCap→(Builtin.firstCells i.size sLen (.slice base sLen sCap)).run P w.drew = .ok olds.toArray w.drew →
    sCap<sLen+n→((sLen+n:Nat):Int)≤9223372036854775807→Builtin.nextslicecap (sLen+n) sCap*i.bytes≤281474976710656 →
    (Builtin.append_ #[t,u] T #[.slice base sLen sCap,v]).run P w = .ok (.slice (some ⟨w.heap.size,0,none⟩) (sLen+n) (grownCap w (sLen+n) sCap e))
        (w.drew.alloc (.cells ((olds++news).toArray++Builtin.zeroCells z.cells (grownCap w (sLen+n) sCap e-(sLen+n))) e))
theorem AppS.ofSrc {t u e:TypeId} {es:Nat} {v:Value} {n:Nat} {news:List Value} (h:Src P es u v n news w):AppS P t u e es v n news w :=
  ⟨h.newsLen,fun i T ht hi hs h0 base sLen sCap hle=>by
      subst h0;have hnil:news=[]:=List.eq_nil_of_length_eq_zero (by rw [h.newsLen];simp);subst hnil;exact run_append_none t u T e i ht hi base sLen sCap hle v (by rw [hs];exact h),
    fun i T ht hi hs _ _ b off sLen sCap hr hc hf=>run_append_room_src w t u T e i ht hi b off sLen sCap v n news (by rw [hs];exact h) hr hc hf,
    fun i T z ht hi hs hz _ base sLen sCap olds _ ho hg h1 h2=>run_append_grow_src w t u T e i z ht hi hz base sLen sCap olds ho v n news (by rw [hs];exact h) hg h1 h2⟩
theorem AppS.zeros {t u e:TypeId} {es:Nat} (h0:es=1) {kn kq:IntKind} (hu:P.underlying u=some (.int kn)) (hz:∃ i z,P.info? e=some i∧i.zero=some z∧z.cells = #[.int .u8 0]) (n:Nat) (hmax:n≤maxLen):AppS P t u e es (.int kq (n:Int)) n (List.replicate n (.int .u8 0)) w:=by
  obtain ⟨i0,z0,hi0,hz0,hzs⟩:=hz;have h4:maxLen=9223372036854775807:=rfl;have hw:IntKind.i64.wrap (n:Int)=n:=by rw [IntKind.wrap_i64];omega
  have hneg:¬ ((n:Int)<0):=by omega
  have hzc:(Builtin.zeroCells z0.cells n)=(List.replicate n (Value.int .u8 0)).toArray:=by
    unfold Builtin.zeroCells;rw [hzs];apply Array.ext
    · simp
    · intro i h1 h2;simp [Nat.mod_one]
  refine ⟨by simp [h0],fun i T ht hi hs hn base sLen sCap hle=>?_,fun i T ht hi hs hb hm b off sLen sCap hr hc hf=>?_,fun i T z ht hi hs hz hb base sLen sCap olds hle ho hg h1 h2=>?_⟩
  · subst hn;cases base <;> simp [Builtin.append_,run_underlying ht,run_underlying hu,sizeOf,typeInfo,hi,asInt,asIntOf,hle,IntKind.wrap_i64,storeCells]
  · rw [hi0] at hi;injection hi with hi;subst hi;have hst:=run_storeCells_cells (P:=P) b (off+sLen*i0.size) (List.replicate n (.int .u8 0)) 0 w (by simpa using hc) (by simpa using hf) (fun u hu=>by rw [List.eq_of_mem_replicate hu];rfl);simp only [Nat.add_zero] at hst;have h48i:¬ (281474976710656<(n:Int)*(i0.bytes:Int)):=by
      rw [← Int.natCast_mul];omega
    rcases Nat.eq_zero_or_pos n with hn | hn
    · subst hn;simp [Builtin.append_,run_underlying ht,run_underlying hu,sizeOf,typeInfo,hi0,asInt,asIntOf,IntKind.wrap_i64,storeCells] at hst ⊢;simp [show sLen≤sCap by omega,World.setCells]
    · have hns:¬ (n*i0.size=0):=by rw [hs,h0];omega
      simp [Builtin.append_,run_underlying ht,run_underlying hu,sizeOf,typeInfo,zeroValue,hi0,hz0,asInt,asIntOf,hw,hneg,hns,h48i,hr,Addr.add_lit,hzc,hst]
  · rw [hi0] at hi;injection hi with hi;subst hi;rw [hz0] at hz;injection hz with hz;subst hz;rw [Lib.run_append_grow_zeros (P:=P) w t u T e i0 _ kq kn ht hu hi0 hz0 base sLen sCap olds ho n (by omega) (by rw [hs,h0];omega) hg h1 hb h2,hzc];congr 3
    apply Array.ext'
    simp
theorem append_gen_ok (hT:TysOK P ty) (hM:Mem X H S m w) {t u e:TypeId} {te:TI} (hu:P.underlying t=some (.slice e)) (hte:ty e=some te) {c:AV} {v vs:Value} (hN:∃ news:List Value,AppS P t u e te.size v (cN c) news w∧HA w S m te.size c news.toArray) {fr:Nat} (hfr:lk H fr=none)
    {k es n:Nat} (hvs:VR w S m (.sl k es 0 n) vs) {b:Blk} (hb:lk H k=some b)
    (hok:okL c) (hcat:catOK b.c c) (he:cN c=0∨cE c=te.size) (hby:(n+cN c)*te.bytes≤140737488355328) (hmax:n+cN c≤maxLen) (hn:n=cN b.c) (hmd:b.mode=0) (hln:b.ln=false) (hes:es=te.size) (hz:zOK te=true) (T:TypeId) (vc:Prop) :
    Post X H S m w ⟨.sl fr es 0 (n+cN c),[(fr,⟨catC b.c c,0,false⟩),(k,⟨b.c,3,false⟩)],vc⟩ ((do pure (.value (← Builtin.append_ #[t,u] T #[vs,v])):Sem Next).run P w):=by
  obtain ⟨i,d,z,hi,_,hs,hbi,hzz,hcells,_⟩:=(hT.1 _ _ hte).ok;obtain ⟨n1,n2⟩:=catC_N hcat;obtain ⟨news,hsrc,hha⟩:=hN;obtain ⟨z1,_,_,z4⟩:=zOK_iff hz;have hzs:z.cells.size=te.size:=by rw [← Array.length_toList,hcells,z1]
  have hnl:news.length=cN c*te.size:=hsrc.newsLen;obtain ⟨r,A,hr,hres,hcap,hcmax,hA,hA0,rfl⟩:=hvs.sl_inv;obtain ⟨r',h1,h2⟩:=hM.blk k b hb;rw [hr] at h1;injection h1 with h1;subst h1;have hB:=h2 (by omega);have hes':r.es=te.size:=by omega
  have hne:fr ≠ k:=fun e=>by rw [e,hb] at hfr;cases hfr
  have hM1:=hM.drop hb hr b.c;have hfr1:lk ((k,⟨b.c,3,false⟩)::H) fr=none:=by
    show (if fr=k then _ else lk H fr)=none;rw [if_neg hne];exact hfr
  simp only [Nat.sub_zero,Nat.zero_add] at hcap hA0 hA ⊢;have hm1:∀ j bj rj,lk ((k,⟨b.c,3,false⟩)::H) j=some bj→m j=some rj→bj.mode≤1→0<rj.cap→j ≠ k∧lk H j=some bj:=by
    intro j bj rj h3 h4 h5 h6;simp only [lk] at h3;split at h3
    · injection h3 with h3;subst h3;simp at h5
    · rename_i hne;exact ⟨hne,h3⟩
  rcases Nat.lt_or_ge r.cap (n+cN c) with hgrow | hroom
  · -- a new row
    have hold:∃ olds:List Value,olds.length=cN b.c*te.size∧(Builtin.firstCells te.size n (.slice A n r.cap)).run P w.drew = .ok olds.toArray w.drew∧HA w S m te.size b.c olds.toArray:=by
      rcases Nat.eq_zero_or_pos n with h0 | hpos
      · subst h0;refine ⟨[],by rw [← hn];simp,?_,HA.nil hn.symm⟩;cases A with
        | none=>exact run_firstCells_none w.drew te.size 0 0 r.cap
        | some a=>exact run_firstCells_some w.drew te.size 0 a 0 r.cap [] (by simp) (fun j v hv=>by simp at hv)
      · have hAe:=hA (by omega);obtain ⟨_,⟨cur,T',q2,q3⟩,_⟩:=hB.row (by omega) (by omega);have hle:cN b.c*te.size≤cur.size:=by rw [q3,hes'];exact Nat.mul_le_mul_right _ hB.len
        refine ⟨cur.toList.take (cN b.c*te.size),by simp;omega,?_,fun p hp=>?_⟩
        · rw [hAe,Nat.zero_mul];refine run_firstCells_some w.drew te.size n _ n r.cap _ (by simp;rw [hn];omega) fun j u hu=>?_;rw [add_mid,Nat.zero_add,drew_cell];unfold World.cell?;rw [q2];rw [List.getElem?_take] at hu;split at hu
          · simpa using hu
          · cases hu
        · obtain ⟨h5,h6⟩:=hB.rd p hp;rw [hes'] at h5;refine ⟨h5,fun j y hy=>?_⟩;obtain ⟨u,h7,h8⟩:=h6 j y hy;refine ⟨u,?_,h8⟩;have hj:j<te.size:=by rw [← h5];exact (List.getElem?_eq_some_iff.1 hy).1
          have hlt:=row_mul hp hj;unfold World.cell? at h7;rw [q2,hes'] at h7;simp only [List.getElem?_toArray];rw [List.getElem?_take,if_pos hlt];simpa using h7
    obtain ⟨olds,ho1,ho2,ho3⟩:=hold;have hrun:=hsrc.atG i T z hu hi hs hzz (by rw [hbi];exact Nat.le_trans (Nat.mul_le_mul_right _ (Nat.le_add_left _ n)) (by omega)) A n r.cap olds (by omega) (by rw [hs];exact ho2) hgrow (by have:maxLen=9223372036854775807:=rfl;omega) (by rw [hbi];exact growslice_fits hgrow hby);obtain ⟨g1,g2⟩:=grownCap_max (w:=w) (need:=n+cN c) (old:=r.cap) (e:=e) hmax;have hcat':=HA.cat (zs:=Builtin.zeroCells z.cells (grownCap w (n+cN c) r.cap e-(n+cN c))) hcat ho3.drew hha.drew ho1;have hsize:((olds++news).toArray++Builtin.zeroCells z.cells (grownCap w (n+cN c) r.cap e-(n+cN c))).size=grownCap w (n+cN c) r.cap e*te.size:=by
      rw [Array.size_append,zeroCells_size,hzs];simp only [List.size_toArray,List.length_append,hnl,ho1,← hn];rw [← Nat.add_mul,← Nat.add_mul];congr 1
      omega
    obtain ⟨hM',hadv⟩:=hM1.drew.new hfr1 e (c:=catC b.c c) (cap:=grownCap w (n+cN c) r.cap e) (es:=te.size) hsize (by rw [n2,← hB.es,hes']) (by omega) g2 hcat';refine ⟨.slice (some ⟨w.heap.size,0,none⟩) (n+cN c) (grownCap w (n+cN c) r.cap e),_,S,_,.inl ?_,⟨fun b o hs=>(hadv.st b o hs),hadv.mp⟩,hM',?_⟩
    · simp [hrun]
    · exact VR.sl (k:=fr) (es:=es) (i:=0) (n:=n+cN c) (r:=⟨w.heap.size,grownCap w (n+cN c) r.cap e,te.size⟩) (A:=some ⟨w.heap.size,0,none⟩) (by simp [mset]) hes.symm (by simpa using g1) g2 (fun _=>by simp) (fun h=>by cases h)
  · -- there is room
    have hbr:∀ {w':World},Adv S m w S (mset m fr r) w'→w'.heap.size=w.heap.size→Frm X w'→(∀ g,g ≠ r.g∨cN c=0→w'.heap[g]? = w.heap[g]?)→BR w' S (mset m fr r) X.own ⟨catC b.c c,0,false⟩ r→Mem X ((fr,⟨catC b.c c,0,false⟩)::(k,⟨b.c,3,false⟩)::H) S (mset m fr r) w':=by
      intro w' hadv hsz hfrm hheap hbr;refine hM1.upd fr _ r (.inl (hM1.dom fr hfr1)) hadv.st hfrm hM1.s1 (fun b o hb=>by rw [hsz];exact hM1.slt b o hb) (fun j bj rj hj h3 h4 h5 h6=>?_) (fun _=>hbr);obtain ⟨q1,q2⟩:=hm1 j bj rj h3 h4 h5 h6;rcases Nat.eq_zero_or_pos r.cap with hr0 | hr0
      · exact ⟨hheap _ (.inr (by omega)),fun o q=>q,fun _ h7=>by omega⟩
      · have hg:=hM.apart hb hr (by omega) hr0 q2 h4 h5 h6 q1;exact ⟨hheap _ (.inl hg),fun o q=>q,fun _ _=>hg⟩
    have hsl:∀ {w':World},VR w' S (mset m fr r) (.sl fr es 0 (n+cN c)) (.slice A (n+cN c) (r.cap-0)) :=
      .sl (r:=r) (by simp [mset]) hres (by omega) hcmax (fun h=>by simpa using hA h) (fun h=>by simpa using hA0 h)
    have hle:=mset_le (k:=fr) (r:=r) (.inl (hM1.dom fr hfr1));rcases Nat.eq_zero_or_pos (cN c) with h0 | hpos
    · have hnil:news=[]:=List.eq_nil_of_length_eq_zero (by rw [hnl,h0];simp);subst hnil;rw [h0] at hsrc;have hrun:=hsrc.atZ i T hu hi hs rfl A n r.cap (by omega);have hadv:Adv S m w S (mset m fr r) w:=⟨fun b o h=>⟨h,rfl⟩,hle⟩;have hcN:cN (catC b.c c)=cN b.c:=by omega
      have hM':=hbr hadv rfl hM.frm (fun _ _=>rfl) ⟨hB.es.trans n2.symm,by show cN _≤_;rw [hcN];exact hB.len,hB.max,fun p hp=>by
        have hp':p<cN b.c:=by have:p<cN (catC b.c c):=hp;omega
        show (cAt (catC b.c c) p).cl.length=r.es∧_;rw [catC_lo hcat hp'];obtain ⟨h5,h6⟩:=hB.rd p hp';refine ⟨h5,fun j y hy=>?_⟩;obtain ⟨u,h7,h8⟩:=h6 j y hy;exact ⟨u,h7,h8.adv hadv⟩,fun h=>by simp at h,fun _ hc=>by
          obtain ⟨q1,q2,q3⟩:=hB.row (by omega) hc;rw [hln] at q1;exact ⟨q1,q2,fun o _=>q3 o (.inl hmd)⟩⟩
      refine ⟨.slice A n r.cap,w,S,_,.inl (by simp [hrun]),hadv,hM',?_⟩;have:=hsl (w':=w);simp only [h0,Nat.add_zero,Nat.sub_zero] at this ⊢;exact this
    · have hc0:0<r.cap:=by omega
      have hAe:=hA hc0;rw [Nat.zero_mul] at hAe;subst hAe;obtain ⟨q1,⟨cur,T',q2,q3⟩,q4⟩:=hB.row (by omega) hc0;have hin:n*te.size+news.length≤cur.size:=by
        rw [hnl,← Nat.add_mul,q3,hes'];exact Nat.mul_le_mul_right _ hroom
      have hcell:∀ j,j<news.length→(w.cell? ⟨r.g,0+n*i.size+j,none⟩).isSome=true:=by
        intro j hj;have hlt:n*te.size+j<cur.size:=by omega
        unfold World.cell?;rw [q2,hs,Nat.zero_add];simp [hlt]
      have hfz:∀ j,j<news.length→w.frozen? ⟨r.g,0+n*i.size+j,none⟩=false:=by
        intro j hj;unfold World.frozen?;rw [q2];simp
      have hrun:=hsrc.atR i T hu hi hs (by rw [hbi];exact Nat.le_trans (Nat.mul_le_mul_right _ (Nat.le_add_left _ n)) (by omega)) (by omega) r.g 0 n r.cap hroom hcell hfz;rw [hs,Nat.zero_add] at hrun hcell hfz;have hst:∀ b' o',S b' o'→S b' o'∧(w.setCells r.g (n*te.size) news).cell? ⟨b',o',none⟩=w.cell? ⟨b',o',none⟩:=by
        intro b' o' hb;refine ⟨hb,cell_of_heap (setCells_heap r.g news _ w b' (fun e=>?_)) o'⟩;subst e;exact q4 o' (.inl hmd) hb
      have hadv:Adv S m w S (mset m fr r) (w.setCells r.g (n*te.size) news):=⟨hst,hle⟩;obtain ⟨_,_,_,hsz⟩:=setCells_rest r.g news (n*te.size) w;obtain ⟨cur',q5,q6⟩:=setCells_size r.g 0 news (n*te.size) w r.g cur T' _ q2;have hM':=hbr hadv hsz (hM.frm.setCells (own_cases q1) _ _) (fun g hg=>by
          rcases hg with hg | hg
          · exact setCells_heap r.g news _ w g hg
          · omega) ⟨hB.es.trans n2.symm,by show cN _≤_;rw [n1];omega,hB.max,fun p hp=>by
        have hp':p<cN b.c+cN c:=by have:p<cN (catC b.c c):=hp;omega
        show (cAt (catC b.c c) p).cl.length=r.es∧_;rcases Nat.lt_or_ge p (cN b.c) with hlt | hge
        · rw [catC_lo hcat hlt];obtain ⟨h5,h6⟩:=hB.rd p hlt;refine ⟨h5,fun j y hy=>?_⟩;obtain ⟨u,h7,h8⟩:=h6 j y hy;refine ⟨u,?_,h8.adv hadv⟩;have hj:j<r.es:=by rw [← h5];exact (List.getElem?_eq_some_iff.1 hy).1
          have:=row_mul hlt hj;rw [World.cell?_setCells_out r.g _ _ _ _ (fun _ _=>.inl (by simp only;rw [hn,← hes'];exact this))];exact h7
        · obtain ⟨d,rfl⟩:∃ d,p=cN b.c+d:=⟨p-cN b.c,by omega⟩;rw [catC_hi hcat (by omega)];obtain ⟨h5,h6⟩:=hha d (by omega);rw [hes'];refine ⟨h5,fun j y hy=>?_⟩;obtain ⟨u,h7,h8⟩:=h6 j y hy;refine ⟨u,?_,h8.adv hadv⟩;simp only [List.getElem?_toArray] at h7;obtain ⟨hlt,h9⟩:=List.getElem?_eq_some_iff.1 h7;have:=World.cell?_setCells_in r.g news (n*te.size) w hcell (d*te.size+j) hlt;rw [Nat.add_mul,← hn,Nat.add_assoc,this,h9],fun h=>by simp at h,fun _ hc=>by
          rw [hln] at q1;exact ⟨q1,⟨cur',T',q5,by rw [q6];exact q3⟩,fun o _=>q4 o (.inl hmd)⟩⟩
      refine ⟨_,_,S,_,.inl (by simp [hrun];rfl),hadv,hM',?_⟩;exact hsl
theorem append_sl_ok (hT:TysOK P ty) (hM:Mem X H S m w) {t u e:TypeId} {te:TI} (hu:P.underlying t=some (.slice e)) (hte:ty e=some te) {c:AV} {v vs:Value} (hN:∀ es,(cN c=0∨cE c=es)→okL c → ∃ news:List Value,Src P es u v (cN c) news w∧HA w S m es c news.toArray) {fr:Nat} (hfr:lk H fr=none)
    {k es n:Nat} (hvs:VR w S m (.sl k es 0 n) vs) {b:Blk} (hb:lk H k=some b)
    (hok:okL c) (hcat:catOK b.c c) (he:cN c=0∨cE c=te.size) (hby:(n+cN c)*te.bytes≤140737488355328) (hmax:n+cN c≤maxLen) (hn:n=cN b.c) (hmd:b.mode=0) (hln:b.ln=false) (hes:es=te.size) (hz:zOK te=true) (T:TypeId) (vc:Prop) :
    Post X H S m w ⟨.sl fr es 0 (n+cN c),[(fr,⟨catC b.c c,0,false⟩),(k,⟨b.c,3,false⟩)],vc⟩ ((do pure (.value (← Builtin.append_ #[t,u] T #[vs,v])):Sem Next).run P w) :=
  append_gen_ok hT hM hu hte ((hN _ he hok).imp fun news h=>⟨.ofSrc h.1,h.2⟩) hfr hvs hb hok hcat he hby hmax hn hmd hln hes hz T vc
theorem Mem.dup {k:Nat} {b b':Blk} (h:Mem X ((k,b)::(k,b')::H) S m w):Mem X ((k,b)::H) S m w:=by
  have e:∀ j,lk ((k,b)::(k,b')::H) j=lk ((k,b)::H) j:=fun j=>by
    simp only [lk];split
    · rfl
    · rfl
  exact ⟨h.lm,h.frm,h.s0,h.s1,h.slt,fun k hk=>h.dom k ((e k).trans hk),fun k b hk=>h.blk k b ((e k).trans hk),fun k k' b b' r r' h1 h2=>h.inj k k' b b' r r' ((e k).trans h1) ((e k').trans h2),h.gl⟩
theorem append_st_ok (hT:TysOK P ty) (hM:Mem X H S m w) {t u e:TypeId} {te:TI} (hu:P.underlying t=some (.slice e)) (hte:ty e=some te) {c:AV} {v vs:Value} (hN:∀ es,(cN c=0∨cE c=es)→okL c → ∃ news:List Value,Src P es u v (cN c) news w∧HA w S m es c news.toArray) {fr:Nat} (hfr:lk H fr=none)
    {k es n:Nat} (hvs:VR w S m (.sl k es 0 n) vs) {b:Blk} (hb:lk H k=some b)
    (hok:okL c) (hcat:catOK b.c c) (he:cN c=0∨cE c=te.size) (hby:(n+cN c)*te.bytes≤140737488355328) (hmax:n+cN c≤maxLen) (hn:n=cN b.c) (hmd:b.mode=1) (hln:b.ln=false) (hes:es=te.size) (hz:zOK te=true) (T:TypeId) (vc:Prop) :
    Post X H S m w ⟨.sl fr es 0 (n+cN c),[(fr,⟨catC b.c c,1,false⟩),(k,⟨b.c,2,b.ln⟩)],vc⟩ ((do pure (.value (← Builtin.append_ #[t,u] T #[vs,v])):Sem Next).run P w):=by
  obtain ⟨i,d,z,hi,_,hs,hbi,hzz,hcells,_⟩:=(hT.1 _ _ hte).ok;obtain ⟨n1,n2⟩:=catC_N hcat;obtain ⟨news,hsrc,hha⟩:=hN _ he hok;obtain ⟨z1,_,_,z4⟩:=zOK_iff hz;have hzs:z.cells.size=te.size:=by rw [← Array.length_toList,hcells,z1]
  have hnl:news.length=cN c*te.size:=hsrc.newsLen;obtain ⟨r,A,hr,hres,hcap,hcmax,hA,hA0,rfl⟩:=hvs.sl_inv;obtain ⟨r',h1,h2⟩:=hM.blk k b hb;rw [hr] at h1;injection h1 with h1;subst h1;have hB:=h2 (by omega);have hes':r.es=te.size:=by omega
  have hne:fr ≠ k:=fun e=>by rw [e,hb] at hfr;cases hfr
  have hM1:=hM.shut hb hr hmd;have hfr1:lk ((k,⟨b.c,2,b.ln⟩)::H) fr=none:=by
    show (if fr=k then _ else lk H fr)=none;rw [if_neg hne];exact hfr
  simp only [Nat.sub_zero,Nat.zero_add] at hcap hA0 hA ⊢;have hm1:∀ j bj rj,lk ((k,⟨b.c,2,b.ln⟩)::H) j=some bj→m j=some rj→bj.mode≤1→0<rj.cap→j ≠ k∧lk H j=some bj:=by
    intro j bj rj h3 h4 h5 h6;simp only [lk] at h3;split at h3
    · injection h3 with h3;subst h3;simp at h5
    · rename_i hne;exact ⟨hne,h3⟩
  rcases Nat.lt_or_ge r.cap (n+cN c) with hgrow | hroom
  · -- a new row
    have hold:∃ olds:List Value,olds.length=cN b.c*te.size∧(Builtin.firstCells te.size n (.slice A n r.cap)).run P w.drew = .ok olds.toArray w.drew∧HA w S m te.size b.c olds.toArray:=by
      rcases Nat.eq_zero_or_pos n with h0 | hpos
      · subst h0;refine ⟨[],by rw [← hn];simp,?_,HA.nil hn.symm⟩;cases A with
        | none=>exact run_firstCells_none w.drew te.size 0 0 r.cap
        | some a=>exact run_firstCells_some w.drew te.size 0 a 0 r.cap [] (by simp) (fun j v hv=>by simp at hv)
      · have hAe:=hA (by omega);obtain ⟨_,⟨cur,T',q2,q3⟩,_⟩:=hB.row (by omega) (by omega);have hle:cN b.c*te.size≤cur.size:=by rw [q3,hes'];exact Nat.mul_le_mul_right _ hB.len
        refine ⟨cur.toList.take (cN b.c*te.size),by simp;omega,?_,fun p hp=>?_⟩
        · rw [hAe,Nat.zero_mul];refine run_firstCells_some w.drew te.size n _ n r.cap _ (by simp;rw [hn];omega) fun j u hu=>?_;rw [add_mid,Nat.zero_add,drew_cell];unfold World.cell?;rw [q2];rw [List.getElem?_take] at hu;split at hu
          · simpa using hu
          · cases hu
        · obtain ⟨h5,h6⟩:=hB.rd p hp;rw [hes'] at h5;refine ⟨h5,fun j y hy=>?_⟩;obtain ⟨u,h7,h8⟩:=h6 j y hy;refine ⟨u,?_,h8⟩;have hj:j<te.size:=by rw [← h5];exact (List.getElem?_eq_some_iff.1 hy).1
          have hlt:=row_mul hp hj;unfold World.cell? at h7;rw [q2,hes'] at h7;simp only [List.getElem?_toArray];rw [List.getElem?_take,if_pos hlt];simpa using h7
    obtain ⟨olds,ho1,ho2,ho3⟩:=hold;have hrun:=run_append_grow_src (P:=P) w t u T e i z hu hi hzz A n r.cap olds (by rw [hs];exact ho2) v (cN c) news (by rw [hs];exact hsrc) hgrow (by have:maxLen=9223372036854775807:=rfl;omega) (by rw [hbi];exact growslice_fits hgrow hby);obtain ⟨g1,g2⟩:=grownCap_max (w:=w) (need:=n+cN c) (old:=r.cap) (e:=e) hmax;have hcat':=HA.cat (zs:=Builtin.zeroCells z.cells (grownCap w (n+cN c) r.cap e-(n+cN c))) hcat ho3.drew hha.drew ho1;have hsize:((olds++news).toArray++Builtin.zeroCells z.cells (grownCap w (n+cN c) r.cap e-(n+cN c))).size=grownCap w (n+cN c) r.cap e*te.size:=by
      rw [Array.size_append,zeroCells_size,hzs];simp only [List.size_toArray,List.length_append,hnl,ho1,← hn];rw [← Nat.add_mul,← Nat.add_mul];congr 1
      omega
    obtain ⟨hM',hadv⟩:=hM1.drew.new hfr1 e (c:=catC b.c c) (cap:=grownCap w (n+cN c) r.cap e) (es:=te.size) hsize (by rw [n2,← hB.es,hes']) (by omega) g2 hcat';obtain ⟨hM2,hadv2⟩:=hM'.freeze (k:=fr) (b:=⟨catC b.c c,0,false⟩) (r:=⟨w.heap.size,grownCap w (n+cN c) r.cap e,te.size⟩) (by simp [lk]) (by simp [mset]) rfl rfl (by show 0<grownCap w (n+cN c) r.cap e;omega);have hadv3:=hadv.trans hadv2;refine ⟨.slice (some ⟨w.heap.size,0,none⟩) (n+cN c) (grownCap w (n+cN c) r.cap e),_,_,_,.inl ?_,⟨fun b o hs=>(hadv3.st b o hs),hadv3.mp⟩,hM2.dup,?_⟩
    · simp [hrun]
    · exact VR.sl (k:=fr) (es:=es) (i:=0) (n:=n+cN c) (r:=⟨w.heap.size,grownCap w (n+cN c) r.cap e,te.size⟩) (A:=some ⟨w.heap.size,0,none⟩) (by simp [mset]) hes.symm (by simpa using g1) g2 (fun _=>by simp) (fun h=>by cases h)
  · -- there is room
    have hsl:∀ {w':World} {S':CSet},VR w' S' (mset m fr r) (.sl fr es 0 (n+cN c)) (.slice A (n+cN c) (r.cap-0)) :=
      .sl (r:=r) (by simp [mset]) hres (by omega) hcmax (fun h=>by simpa using hA h) (fun h=>by simpa using hA0 h)
    have hle:=mset_le (k:=fr) (r:=r) (.inl (hM1.dom fr hfr1));rcases Nat.eq_zero_or_pos (cN c) with h0 | hpos
    · have hnil:news=[]:=List.eq_nil_of_length_eq_zero (by rw [hnl,h0];simp);subst hnil;rw [h0] at hsrc;have hrun:=run_append_none (P:=P) t u T e i hu hi A n r.cap (by omega) v (by rw [hs];exact hsrc);have hadv:Adv S m w S (mset m fr r) w:=⟨fun b o h=>⟨h,rfl⟩,hle⟩;have hcN:cN (catC b.c c)=cN b.c:=by omega
      have hM':Mem X ((fr,⟨catC b.c c,1,false⟩)::(k,⟨b.c,2,b.ln⟩)::H) S (mset m fr r) w:=by
        refine hM1.upd fr _ r (.inl (hM1.dom fr hfr1)) hadv.st hM.frm hM1.s1 hM1.slt (fun j bj rj hj h3 h4 h5 h6=>?_) (fun _=>?_)
        · obtain ⟨q1,q2⟩:=hm1 j bj rj h3 h4 h5 h6;refine ⟨rfl,fun o q=>q,fun _ h7=>?_⟩;exact hM.apart hb hr (by omega) h7 q2 h4 h5 h6 q1
        · exact ⟨hB.es.trans n2.symm,by show cN _≤_;rw [hcN];exact hB.len,hB.max,fun p hp=>by
            have hp':p<cN b.c:=by have:p<cN (catC b.c c):=hp;omega
            show (cAt (catC b.c c) p).cl.length=r.es∧_;rw [catC_lo hcat hp'];obtain ⟨h5,h6⟩:=hB.rd p hp';refine ⟨h5,fun j y hy=>?_⟩;obtain ⟨u,h7,h8⟩:=h6 j y hy;exact ⟨u,h7,h8.adv hadv⟩,fun _ o ho=>hB.set (by omega) o (by rw [← hcN];exact ho),fun _ hc=>by
              obtain ⟨q1,q2,q3⟩:=hB.row (by omega) hc;rw [hln] at q1;exact ⟨q1,q2,fun o ho=>q3 o (.inr (by
                rcases ho with ho | ho
                · simp at ho
                · have:cN (catC b.c c)*r.es≤o:=ho;rw [hcN] at this;exact this))⟩⟩
      refine ⟨.slice A n r.cap,w,S,_,.inl (by simp [hrun]),hadv,hM',?_⟩;have:=hsl (w':=w) (S':=S);simp only [h0,Nat.add_zero,Nat.sub_zero] at this ⊢;exact this
    · have hc0:0<r.cap:=by omega
      have hAe:=hA hc0;rw [Nat.zero_mul] at hAe;subst hAe;obtain ⟨q1,⟨cur,T',q2,q3⟩,q4⟩:=hB.row (by omega) hc0;have hin:n*te.size+news.length≤cur.size:=by
        rw [hnl,← Nat.add_mul,q3,hes'];exact Nat.mul_le_mul_right _ hroom
      have hcell:∀ j,j<news.length→(w.cell? ⟨r.g,0+n*i.size+j,none⟩).isSome=true:=by
        intro j hj;have hlt:n*te.size+j<cur.size:=by omega
        unfold World.cell?;rw [q2,hs,Nat.zero_add];simp [hlt]
      have hfz:∀ j,j<news.length→w.frozen? ⟨r.g,0+n*i.size+j,none⟩=false:=by
        intro j hj;unfold World.frozen?;rw [q2];simp
      have hrun:=run_append_room_src (P:=P) w t u T e i hu hi r.g 0 n r.cap v (cN c) news (by rw [hs];exact hsrc) hroom hcell hfz;rw [hs,Nat.zero_add] at hrun hcell hfz;have hcE:cE b.c=r.es:=hB.es.symm;have hS1:∀ o,S r.g o→o<n*te.size:=fun o ho=>by
        rcases Nat.lt_or_ge o (n*te.size) with h | h
        · exact h
        · exact absurd ho (q4 o (.inr (by rw [← hn,hes'];exact h)))
      have hst0:∀ b' o',S b' o'→(w.setCells r.g (n*te.size) news).cell? ⟨b',o',none⟩=w.cell? ⟨b',o',none⟩:=by
        intro b' o' hb;by_cases e:b'=r.g
        · subst e;exact World.cell?_setCells_out _ _ _ _ _ (fun _ _=>.inl (hS1 o' hb))
        · exact cell_of_heap (setCells_heap r.g news _ w b' e) o'
      have hst:∀ b' o',S b' o'→settle S r.g ((n+cN c)*r.es) b' o'∧(w.setCells r.g (n*te.size) news).cell? ⟨b',o',none⟩=w.cell? ⟨b',o',none⟩:=fun b' o' hb=>⟨.inl hb,hst0 b' o' hb⟩;have hadv:Adv S m w (settle S r.g ((n+cN c)*r.es)) (mset m fr r) (w.setCells r.g (n*te.size) news):=⟨hst,hle⟩;obtain ⟨_,_,_,hsz⟩:=setCells_rest r.g news (n*te.size) w;obtain ⟨cur',q5,q6⟩:=setCells_size r.g 0 news (n*te.size) w r.g cur T' _ q2;have hown:X.mine r.g:=by
        rw [hln] at q1;exact q1
      have hlt:=hM.lt hb hr (by omega) hc0;have hM':Mem X ((fr,⟨catC b.c c,1,false⟩)::(k,⟨b.c,2,b.ln⟩)::H) (settle S r.g ((n+cN c)*r.es)) (mset m fr r) (w.setCells r.g (n*te.size) news):=by
        refine hM1.upd fr _ r (.inl (hM1.dom fr hfr1)) hst (hM.frm.setCells (own_cases q1) _ _) (fun b' o' hb'=>?_) (fun b' o' hb'=>?_) (fun j bj rj hj h3 h4 h5 h6=>?_) (fun _=>?_)
        · rcases hb' with hb' | ⟨rfl,_⟩
          · exact hM1.s1 _ _ hb'
          · exact .inr hown
        · rw [hsz];rcases hb' with hb' | ⟨rfl,_⟩
          · exact hM1.slt _ _ hb'
          · exact hlt
        · obtain ⟨p1,p2⟩:=hm1 j bj rj h3 h4 h5 h6;have hg:=hM.apart hb hr (by omega) hc0 p2 h4 h5 h6 p1;exact ⟨setCells_heap r.g news _ w rj.g hg,fun o ho=>ho.resolve_right (fun q=>hg q.1),fun _ _=>hg⟩
        · refine ⟨hB.es.trans n2.symm,by show cN _≤_;rw [n1];omega,hB.max,fun p hp=>?_,fun _ o ho=>?_,fun _ _=>⟨hown,⟨cur',T',q5,by rw [q6];exact q3⟩,fun o ho hs=>?_⟩⟩
          · have hp':p<cN b.c+cN c:=by have:p<cN (catC b.c c):=hp;omega
            show (cAt (catC b.c c) p).cl.length=r.es∧_;rcases Nat.lt_or_ge p (cN b.c) with hlt | hge
            · rw [catC_lo hcat hlt];obtain ⟨h5,h6⟩:=hB.rd p hlt;refine ⟨h5,fun j y hy=>?_⟩;obtain ⟨u,h7,h8⟩:=h6 j y hy;refine ⟨u,?_,h8.adv hadv⟩;have hj:j<r.es:=by rw [← h5];exact (List.getElem?_eq_some_iff.1 hy).1
              have:=row_mul hlt hj;rw [World.cell?_setCells_out r.g _ _ _ _ (fun _ _=>.inl (by simp only;rw [hn,← hes'];exact this))];exact h7
            · obtain ⟨d,rfl⟩:∃ d,p=cN b.c+d:=⟨p-cN b.c,by omega⟩;rw [catC_hi hcat (by omega)];obtain ⟨h5,h6⟩:=hha d (by omega);have hadv2:=hadv;rw [hes'] at hadv2;rw [hes'];refine ⟨h5,fun j y hy=>?_⟩;obtain ⟨u,h7,h8⟩:=h6 j y hy;refine ⟨u,?_,h8.adv hadv2⟩;simp only [List.getElem?_toArray] at h7;obtain ⟨hlt,h9⟩:=List.getElem?_eq_some_iff.1 h7;have:=World.cell?_setCells_in r.g news (n*te.size) w hcell (d*te.size+j) hlt;rw [Nat.add_mul,← hn,Nat.add_assoc,this,h9]
          · have ho:o<cN (catC b.c c)*r.es:=ho;rw [n1,← hn] at ho;exact .inr ⟨rfl,ho⟩
          · rcases ho with ho | ho
            · simp at ho
            · have ho:cN (catC b.c c)*r.es≤o:=ho;rw [n1,← hn] at ho;rcases hs with hs | ⟨_,hs⟩
              · have h7:=hS1 o hs;rw [← hes'] at h7;have:n*r.es≤(n+cN c)*r.es:=Nat.mul_le_mul_right _ (Nat.le_add_right _ _);omega
              · omega
      refine ⟨_,_,_,_,.inl (by simp [hrun];rfl),hadv,hM',?_⟩;exact hsl
end
end Go.TravelAbs
namespace Go.TravelAbs
open Go.RowKit Go.TravelBase
section
variable {P:Program} {ty:Ty} {X:Cx} {H:List (Nat × Blk)} {S:CSet} {m:RMap} {w:World}
theorem cpA_N {a b:AV} {i k:Nat} (h:cpOK a b) (hk:k≤cN b) (hi:i+k≤cN a):cN (cpA a i b k)=cN a∧cE (cpA a i b k)=cE a:=by
  unfold cpOK at h;split at h
  · simp only [cN] at hk hi ⊢;simp [cpA,cN,cE];omega
  · simp only [cN] at hk hi ⊢;simp [cpA,cN,cE];omega
  · exact h.elim
theorem list_cp {α:Type} {x y:List α} {i k p:Nat} (hk:k≤y.length) (hi:i+k≤x.length):(x.take i++y.take k++x.drop (i+k))[p]? = if i≤p∧p<i+k then y[p-i]? else x[p]?:=by
  split
  · rename_i h;rw [List.append_assoc,List.getElem?_append_right (by simp;omega),List.length_take,Nat.min_eq_left (by omega),List.getElem?_append_left (by simp;omega),List.getElem?_take,if_pos (by omega)]
  · rename_i h;rcases Nat.lt_or_ge p i with hp | hp
    · rw [List.append_assoc,List.getElem?_append_left (by simp;omega),List.getElem?_take,if_pos hp]
    · rw [List.getElem?_append_right (by simp;omega),List.getElem?_drop];simp only [List.length_append,List.length_take];rw [Nat.min_eq_left (by omega),Nat.min_eq_left (by omega),show i+k+(p-(i+k))=p by omega]
theorem cpA_at {a b:AV} {i k p:Nat} (h:cpOK a b) (hk:k≤cN b) (hi:i+k≤cN a):cAt (cpA a i b k) p=if i≤p∧p<i+k then cAt b (p-i) else cAt a p:=by
  unfold cpOK at h;split at h
  · simp only [cN] at hk hi;simp only [cpA,cAt,List.getD,list_cp hk hi];split <;> rfl
  · simp only [cN] at hk hi;simp only [cpA,cAt,List.getD,list_cp hk hi];split <;> rfl
  · exact h.elim
theorem LR.pre {c:AV} {A:Option Addr} {n cap:Nat} (h:LR w S m c (.slice A n cap)) {k:Nat} (hk:k≤cN c):LR w S m (sub c 0 k) (.slice A k cap):=by
  obtain ⟨A',n',cap',e,hn,hcap,hr⟩:=h;injection e with e1 e2 e3;subst e1 e2 e3;refine ⟨A,k,cap,rfl,sub_len (by omega),by omega,?_⟩;rcases Nat.eq_zero_or_pos k with h0 | hpos
  · exact .inl h0
  · right;rcases hr with h | ⟨b,off,hA,hr⟩
    · omega
    · refine ⟨b,off,hA,fun i hi=>?_⟩;obtain ⟨e1,e2⟩:=sub_at (c:=c) (i:=0) (n:=k) (j:=i) (by omega) hi;rw [e1,e2,Nat.zero_add];exact hr i (by omega)
theorem okL_sub {c:AV} (h:okL c) (k:Nat):okL (sub c 0 k):=by
  cases c with
  | by_ bs=>trivial
  | li es xs=>exact fun x hx=>h x (List.mem_of_mem_drop (List.mem_of_mem_take hx))
  | _=>exact h.elim
theorem copy_ok (hT:TysOK P ty) (hM:Mem X H S m w) {t u e e':TypeId} {te:TI} (hu:P.underlying t=some (.slice e)) (hu':P.underlying u=some (.slice e')) (hte:ty e=some te) {c:AV} {v vs:Value} (hc:LR w S m c v)
    {k es i n:Nat} (hvs:VR w S m (.sl k es i n) vs) {b:Blk} (hb:lk H k=some b)
    (hok:okL c) (hcp:cpOK b.c c) (he:cE c=te.size) (hes:es=te.size) (h0s:0<te.size) (hn:i+n≤cN b.c) (hmd:b.mode=0) (T:TypeId) (vc:Prop) :
    Post X H S m w ⟨.lit (.int .i64 (min (cN c) n:Nat)),[(k,⟨cpA b.c i c (min (cN c) n),0,b.ln⟩)],vc⟩ ((do pure (.value (← Builtin.copy_ #[t,u] T #[vs,v])):Sem Next).run P w):=by
  obtain ⟨ie,d,z,hie,_,hs,_⟩:=(hT.1 _ _ hte).ok;obtain ⟨r,A,hr,hres,hcap,hcmax,hA,hA0,rfl⟩:=hvs.sl_inv;obtain ⟨r',h1,h2⟩:=hM.blk k b hb;rw [hr] at h1;injection h1 with h1;subst h1;have hB:=h2 (by omega);have hv:∃ A' cap',v = .slice A' (cN c) cap':=by
    obtain ⟨A',n',cap',h,h',_⟩:=hc;exact ⟨A',cap',by rw [h,h']⟩
  obtain ⟨A',cap',rfl⟩:=hv;have hmin:min (cN c) n≤cN c:=Nat.min_le_left _ _;have hmin':min (cN c) n≤n:=Nat.min_le_right _ _;generalize hkk:min (cN c) n=kk at hmin hmin';have hsubN:cN (sub c 0 kk)=kk:=sub_len (by omega);have hsubE:cN (sub c 0 kk)=0∨cE (sub c 0 kk)=te.size:=by
    right;cases c <;> first | exact he | (simp only [cpOK] at hcp;exact hcp.elim) | exact (by unfold cpOK at hcp;split at hcp <;> first | exact hcp.elim | contradiction)
  obtain ⟨news,hsrc,hha⟩:=(hc.pre hmin).news (P:=P) hsubE (okL_sub hok kk) hu';rw [hsubN] at hsrc;have hnl:news.length=kk*te.size:=hsrc.newsLen;have hfirst:(Builtin.firstCells te.size kk (.slice A' (cN c) cap')).run P w = .ok news.toArray w:=by
    have h:=hsrc.cells;cases A' <;> exact h
  have hlenof:Nat.min (cN c) n=kk:=hkk;obtain ⟨c1,c2⟩:=cpA_N hcp hmin (i:=i) (by omega);have hr1:(Builtin.copy_ #[t,u] T #[.slice A n (r.cap-i),.slice A' (cN c) cap']).run P w=(match A with | some a=>(storeCells a news).run P w | none=>.ok () w).andThen (fun _ w'=>.ok (goInt (kk:Nat)) w'):=by
    cases A <;> simp [Builtin.copy_,run_underlying hu,sizeOf,typeInfo,hie,hs,Builtin.lenOf,hlenof,hfirst]
  rcases Nat.eq_zero_or_pos kk with hk0 | hkpos
  · -- nothing is copied
    have hnil:news=[]:=List.eq_nil_of_length_eq_zero (by rw [hnl,hk0];simp);subst hnil;have hr2:(Builtin.copy_ #[t,u] T #[.slice A n (r.cap-i),.slice A' (cN c) cap']).run P w = .ok (goInt (kk:Nat)) w:=by
      rw [hr1];cases A <;> rfl
    have hM':Mem X ((k,⟨cpA b.c i c kk,0,b.ln⟩)::H) S m w:=by
      have e:mset m k r=m:=by
        funext j
        unfold mset;split
        · rename_i e;rw [e,hr]
        · rfl
      have:=hM.upd (S':=S) (w':=w) k ⟨cpA b.c i c kk,0,b.ln⟩ r (.inr hr) (fun b o hb=>⟨hb,rfl⟩) hM.frm hM.s1 hM.slt (fun j bj rj hj h1 h2 h3 h4=>⟨rfl,fun _ q=>q,fun h5 h6=>hM.apart hb hr (by omega) h6 h1 h2 h3 h4 hj⟩) (fun _=>by
        rw [e];refine ⟨hB.es.trans c2.symm,by show cN _≤_;rw [c1];exact hB.len,hB.max,fun p hp=>?_,fun h=>by simp at h,fun _ hc=>?_⟩
        · have hp':p<cN (cpA b.c i c kk):=hp;rw [c1] at hp';show (cAt (cpA b.c i c kk) p).cl.length=r.es∧_;rw [cpA_at hcp hmin (by omega),if_neg (by omega)];exact hB.rd p hp'
        · obtain ⟨q1,q2,q3⟩:=hB.row (by omega) hc;exact ⟨q1,q2,fun o _=>q3 o (.inl hmd)⟩)
      rwa [e] at this
    exact ⟨_,w,S,m,.inl (by simp [hr2];rfl),Adv.refl _ _ _,hM',.lit _⟩
  · have hlen:=hB.len;have hAe:=hA (by omega);subst hAe;obtain ⟨q1,⟨cur,T',q2,q3⟩,q4⟩:=hB.row (by omega) (by omega);have hin:i*r.es+news.length≤r.cap*r.es:=by
      have:(i+kk)*r.es≤r.cap*r.es:=Nat.mul_le_mul_right _ (by omega);rw [Nat.add_mul] at this;rw [hnl];have:te.size=r.es:=by omega
      rw [this];omega
    have hcell:∀ j,j<news.length→(w.cell? ⟨r.g,i*r.es+j,none⟩).isSome=true:=by
      intro j hj;have hlt:i*r.es+j<cur.size:=by omega
      unfold World.cell?;rw [q2];simp [hlt]
    have hfz:∀ j,j<news.length→w.frozen? ⟨r.g,i*r.es+j,none⟩=false:=by
      intro j hj;unfold World.frozen?;rw [q2];simp
    have hst:=run_storeCells_cells (P:=P) r.g (i*r.es) news 0 w (by simpa using hcell) (by simpa using hfz) hsrc.one;simp only [Nat.add_zero] at hst;have hr2:(Builtin.copy_ #[t,u] T #[.slice (some ⟨r.g,i*r.es,none⟩) n (r.cap-i),.slice A' (cN c) cap']).run P w = .ok (goInt (kk:Nat)) (w.setCells r.g (i*r.es) news):=by
      rw [hr1];simp [hst]
    have hput:=hM.put hb hr hmd (c':=cpA b.c i c kk) (o:=i*r.es) (vs:=news) c1 c2 (fun e=>by rw [e] at hnl;simp at hnl;have:=Nat.mul_pos hkpos h0s;omega) (by omega) hin (fun p hp=>?_)
    · obtain ⟨hM',hadv⟩:=hput;exact ⟨_,_,S,m,.inl (by simp [hr2];rfl),hadv,hM',.lit _⟩
    · rw [c1] at hp;rw [cpA_at hcp hmin (by omega)];split
      · rename_i hpi;obtain ⟨d,rfl⟩:∃ d,p=i+d:=⟨p-i,by omega⟩;rw [Nat.add_sub_cancel_left];obtain ⟨h5,h6⟩:=hha d (by rw [hsubN];omega);obtain ⟨e1,_⟩:=sub_at (c:=c) (i:=0) (n:=kk) (j:=d) (by omega) (by omega);rw [e1,Nat.zero_add] at h5 h6;have:te.size=r.es:=by omega
        rw [this] at h5 h6;refine ⟨h5,fun j y hy=>?_⟩;obtain ⟨u,h7,h8⟩:=h6 j y hy;refine ⟨u,?_,h8⟩;simp only [List.getElem?_toArray] at h7;obtain ⟨hlt,h9⟩:=List.getElem?_eq_some_iff.1 h7;have:=World.cell?_setCells_in r.g news (i*r.es) w hcell (d*r.es+j) hlt;rw [Nat.add_mul,Nat.add_assoc,this,h9]
      · rename_i hpi;obtain ⟨h5,h6⟩:=hB.rd p hp;refine ⟨h5,fun j y hy=>?_⟩;obtain ⟨u,h7,h8⟩:=h6 j y hy;refine ⟨u,?_,h8⟩;have hj:j<r.es:=by rw [← h5];exact (List.getElem?_eq_some_iff.1 hy).1
        rw [World.cell?_setCells_out r.g _ _ _ _ (fun _ _=>?_)]
        · exact h7
        · simp only
          have hh:news.length=kk*r.es:=by rw [hnl];congr 1;omega
          rcases Nat.lt_or_ge p i with hlt | hge
          · left;have:(p+1)*r.es≤i*r.es:=Nat.mul_le_mul_right _ hlt;rw [Nat.add_mul] at this;omega
          · right;have:(i+kk)*r.es≤p*r.es:=Nat.mul_le_mul_right _ (by omega);rw [Nat.add_mul] at this;omega
theorem append_in_ok (hT:TysOK P ty) (hM:Mem X H S m w) {t u e:TypeId} {te:TI} (hu:P.underlying t=some (.slice e)) (hte:ty e=some te) {c:AV} {v vs:Value} (hN:∀ es,(cN c=0∨cE c=es)→okL c → ∃ news:List Value,Src P es u v (cN c) news w∧HA w S m es c news.toArray)
    {k es n:Nat} (hvs:VR w S m (.sl k es 0 n) vs) {b:Blk} (hb:lk H k=some b)
    (hok:okL c) (hcp:cpOK b.c c) (he:cE c=te.size) (hes:es=te.size) (h0s:0<te.size) (hn:n+cN c≤cN b.c) (hmd:b.mode=0) (T:TypeId) (vc:Prop) :
    Post X H S m w ⟨.sl k es 0 (n+cN c),[(k,⟨cpA b.c n c (cN c),0,b.ln⟩)],vc⟩ ((do pure (.value (← Builtin.append_ #[t,u] T #[vs,v])):Sem Next).run P w):=by
  obtain ⟨ie,d,z,hie,_,hs,_⟩:=(hT.1 _ _ hte).ok;obtain ⟨r,A,hr,hres,hcap,hcmax,hA,hA0,rfl⟩:=hvs.sl_inv;obtain ⟨r',h1,h2⟩:=hM.blk k b hb;rw [hr] at h1;injection h1 with h1;subst h1;have hB:=h2 (by omega);obtain ⟨news,hsrc,hha⟩:=hN _ (.inr he) hok;have hnl:news.length=cN c*te.size:=hsrc.newsLen;have hlen:=hB.len;have hes':r.es=te.size:=by omega
  simp only [Nat.sub_zero,Nat.zero_add] at hcap hA0 hA ⊢;obtain ⟨c1,c2⟩:=cpA_N hcp (Nat.le_refl (cN c)) (i:=n) (by omega);have hsl:∀ {w':World} {S':CSet},VR w' S' m (.sl k es 0 (n+cN c)) (.slice A (n+cN c) (r.cap-0)):=.sl (r:=r) hr hres (by omega) hcmax (fun h=>by simpa using hA h) (fun h=>by simpa using hA0 h);simp only [Nat.sub_zero] at hsl;rcases Nat.eq_zero_or_pos (cN c) with h0 | hpos
  · have hnil:news=[]:=List.eq_nil_of_length_eq_zero (by rw [hnl,h0];simp);subst hnil;rw [h0] at hsrc;have hrun:=run_append_none (P:=P) t u T e ie hu hie A n r.cap (by omega) v (by rw [hs];exact hsrc);have hM':Mem X ((k,⟨cpA b.c n c (cN c),0,b.ln⟩)::H) S m w:=by
      have e:mset m k r=m:=by
        funext j
        unfold mset;split
        · rename_i e;rw [e,hr]
        · rfl
      have:=hM.upd (S':=S) (w':=w) k ⟨cpA b.c n c (cN c),0,b.ln⟩ r (.inr hr) (fun b o hb=>⟨hb,rfl⟩) hM.frm hM.s1 hM.slt (fun j bj rj hj h1 h2 h3 h4=>⟨rfl,fun _ q=>q,fun h5 h6=>hM.apart hb hr (by omega) h6 h1 h2 h3 h4 hj⟩) (fun _=>by
        rw [e];refine ⟨hB.es.trans c2.symm,by show cN _≤_;rw [c1];exact hB.len,hB.max,fun p hp=>?_,fun h=>by simp at h,fun _ hc=>?_⟩
        · have hp':p<cN (cpA b.c n c (cN c)):=hp;rw [c1] at hp';show (cAt (cpA b.c n c (cN c)) p).cl.length=r.es∧_;rw [cpA_at hcp (Nat.le_refl (cN c)) (by omega),if_neg (by omega)];exact hB.rd p hp'
        · obtain ⟨q1,q2,q3⟩:=hB.row (by omega) hc;exact ⟨q1,q2,fun o _=>q3 o (.inl hmd)⟩)
      rwa [e] at this
    refine ⟨.slice A n r.cap,w,S,m,.inl (by simp [hrun]),Adv.refl _ _ _,hM',?_⟩;have:=hsl (w':=w) (S':=S);simp only [h0,Nat.add_zero] at this ⊢;exact this
  · have hAe:=hA (by omega);rw [Nat.zero_mul] at hAe;subst hAe;obtain ⟨q1,⟨cur,T',q2,q3⟩,q4⟩:=hB.row (by omega) (by omega);have hin:n*te.size+news.length≤r.cap*r.es:=by
      rw [hnl,← Nat.add_mul,hes'];exact Nat.mul_le_mul_right _ (by omega)
    have hcell:∀ j,j<news.length→(w.cell? ⟨r.g,0+n*ie.size+j,none⟩).isSome=true:=by
      intro j hj;have hlt:n*te.size+j<cur.size:=by omega
      unfold World.cell?;rw [q2,hs,Nat.zero_add];simp [hlt]
    have hfz:∀ j,j<news.length→w.frozen? ⟨r.g,0+n*ie.size+j,none⟩=false:=by
      intro j hj;unfold World.frozen?;rw [q2];simp
    have hrun:=run_append_room_src (P:=P) w t u T e ie hu hie r.g 0 n r.cap v (cN c) news (by rw [hs];exact hsrc) (by omega) hcell hfz;rw [hs,Nat.zero_add] at hrun hcell hfz;have hput:=hM.put hb hr hmd (c':=cpA b.c n c (cN c)) (o:=n*te.size) (vs:=news) c1 c2 (fun e=>by rw [e] at hnl;simp at hnl;have:=Nat.mul_pos hpos h0s;omega) (by omega) hin (fun p hp=>?_)
    · obtain ⟨hM',hadv⟩:=hput;exact ⟨_,_,S,m,.inl (by simp [hrun]),hadv,hM',hsl⟩
    · rw [c1] at hp;rw [cpA_at hcp (Nat.le_refl (cN c)) (by omega)];rw [← hes'] at hcell ⊢;split
      · rename_i hpi;obtain ⟨d,rfl⟩:∃ d,p=n+d:=⟨p-n,by omega⟩;rw [Nat.add_sub_cancel_left];obtain ⟨h5,h6⟩:=hha d (by omega);rw [← hes'] at h5 h6;refine ⟨h5,fun j y hy=>?_⟩;obtain ⟨u,h7,h8⟩:=h6 j y hy;refine ⟨u,?_,h8⟩;simp only [List.getElem?_toArray] at h7;obtain ⟨hlt,h9⟩:=List.getElem?_eq_some_iff.1 h7;have:=World.cell?_setCells_in r.g news (n*r.es) w hcell (d*r.es+j) hlt;rw [Nat.add_mul,Nat.add_assoc,this,h9]
      · rename_i hpi;obtain ⟨h5,h6⟩:=hB.rd p hp;refine ⟨h5,fun j y hy=>?_⟩;obtain ⟨u,h7,h8⟩:=h6 j y hy;refine ⟨u,?_,h8⟩;have hj:j<r.es:=by rw [← h5];exact (List.getElem?_eq_some_iff.1 hy).1
        rw [World.cell?_setCells_out r.g _ _ _ _ (fun _ _=>?_)]
        · exact h7
        · simp only
          have hh:news.length=cN c*r.es:=by rw [hnl,hes']
          rcases Nat.lt_or_ge p n with hlt | hge
          · left;have:(p+1)*r.es≤n*r.es:=Nat.mul_le_mul_right _ hlt;rw [Nat.add_mul] at this;omega
          · right;have:(n+cN c)*r.es≤p*r.es:=Nat.mul_le_mul_right _ (by omega);rw [Nat.add_mul] at this;omega
theorem mkC_at {te:TI} {xs:List AV} (h:mkOK te xs) {i:Nat} (hi:i<xs.length):cAt (mkC te xs) i=xs.getD i .any:=by
  unfold mkC;split
  · rename_i hu;have:=h.2 hu (xs.getD i .any) (List.mem_of_getElem? (getD_of_lt hi));simp only [cAt];rw [this];simp [List.getD,List.getElem?_eq_getElem hi] at this ⊢
  · rfl
theorem mkC_N (te:TI) (xs:List AV):cN (mkC te xs)=xs.length:=by unfold mkC;split <;> simp [cN]
theorem mkC_E {te:TI} {xs:List AV} (h:mkOK te xs) (hu:isU8 te=true→te.size=1):cE (mkC te xs)=te.size:=by
  unfold mkC;split
  · rename_i h1;exact (hu h1).symm
  · rfl
theorem make_ok (hT:TysOK P ty) (hM:Mem X H S m w) {t e:TypeId} {te:TI} (hu:P.underlying t=some (.slice e)) (hte:ty e=some te) {fr:Nat} (hfr:lk H fr=none) (kl kc:IntKind) {x:Int} (h0:0≤x) (hb:te.bytes*x≤140737488355328) (hx:x≤9223372036854775807)
    (h1:te.size=1) (hz:zOK te=true) (hrow:te.kind.row=false) (h8:isU8 te=true→te.zero=[.int .u8 0]) (vc:Prop) :
    Post X H S m w ⟨.sl fr te.size 0 x.toNat,[(fr,⟨mkC te (List.replicate x.toNat (zeroA te)),0,false⟩)],vc⟩ ((do pure (.value (← Instr.makeSlice t (.int kl x) (.int kc x))):Sem Next).run P w):=by
  obtain ⟨i,d,z,hi,_,hs,hbi,hzz,hcells,_⟩:=(hT.1 _ _ hte).ok;obtain ⟨z1,z2,z3,z4⟩:=zOK_iff hz;obtain ⟨n,rfl⟩:=Int.eq_ofNat_of_zero_le h0;rw [Int.toNat_natCast];have hlen:te.zero.length=1:=by omega
  obtain ⟨zz,hzl⟩:=List.length_eq_one_iff.1 hlen;have hzc:z.cells = #[zz]:=by
    apply Array.ext'
    rw [hcells,hzl]
  have hzone:zz.oneCell'=true:=z2 zz (by rw [hzl];simp);have hzA:zeroA te = .lit zz:=by unfold zeroA;rw [hrow,hzl];rfl
  have hmk:mkOK te (List.replicate n (zeroA te)):=by
    refine ⟨fun y hy=>?_,fun hu8 y hy=>?_⟩
    · obtain rfl:=List.eq_of_mem_replicate hy;rw [hzA];exact ⟨by simp [okc,AV.cl,AV.one,hzone],h1.symm⟩
    · obtain rfl:=List.eq_of_mem_replicate hy;have:=h8 hu8;rw [hzl] at this;injection this with this;rw [hzA,this];rfl
  have hrun:=run_make (P:=P) w t e i z hu hi hzz kl kc (n:Int) (n:Int) (by omega) (Int.le_refl _) (by rw [hbi];omega) hx;rw [Int.toNat_natCast,hs,h1,Nat.mul_one,hzc] at hrun;have hha:HA w S m te.size (mkC te (List.replicate n (zeroA te))) (madeCells #[zz] n):=by
    intro p hp;rw [mkC_N,List.length_replicate] at hp;rw [mkC_at hmk (by simpa using hp)];have e1:(List.replicate n (zeroA te)).getD p .any = .lit zz:=by simp [List.getD,hp,hzA]
    rw [e1];refine ⟨h1.symm,fun j y hy=>?_⟩;match j,hy with
    | 0,hy =>
      simp [AV.cl] at hy;subst hy;refine ⟨zz,?_,.lit _⟩;rw [h1];simp [madeCells,hp,Nat.mod_one]
  obtain ⟨hM',hadv⟩:=hM.new hfr e (cap:=n) (es:=te.size) (cur:=madeCells #[zz] n) (by rw [size_madeCells,h1,Nat.mul_one]) (mkC_E hmk fun _=>h1) (by rw [mkC_N];simp) (by have:maxLen=9223372036854775807:=rfl;omega) hha;refine ⟨.slice (some ⟨w.heap.size,0,none⟩) n n,_,S,_,.inl ?_,hadv,hM',?_⟩
  · simp [hrun]
  · exact .sl (k:=fr) (es:=te.size) (i:=0) (n:=n) (r:=⟨w.heap.size,n,te.size⟩) (A:=some ⟨w.heap.size,0,none⟩) (by simp [mset]) rfl (by simp) (by have:maxLen=9223372036854775807:=rfl;show n≤_;omega) (fun _=>by simp) (fun h=>by cases h)
theorem foldl_put (off:Nat):∀ (l:List Value) (n:Nat) (cs:Array Value),off+n+l.length≤cs.size →
    ((l.zipIdx n).foldl (fun cs (c,j)=>cs.setIfInBounds (off+j) c) cs).size=cs.size ∧ ∀ k:Nat,((l.zipIdx n).foldl (fun cs (c,j)=>cs.setIfInBounds (off+j) c) cs)[k]? = if off+n≤k∧k<off+n+l.length then l[k-(off+n)]? else cs[k]?
  | [],n,cs,_=>⟨rfl,fun k=>by rw [if_neg (by simp only [List.length_nil];omega)];rfl⟩
  | v::l,n,cs,h=>by
    simp only [List.length_cons] at h;obtain ⟨h1,h2⟩:=foldl_put off l (n+1) (cs.setIfInBounds (off+n) v) (by simp;omega);simp only [List.zipIdx_cons,List.foldl_cons];refine ⟨by rw [h1];simp,fun k=>?_⟩;rw [h2 k];simp only [List.length_cons];by_cases hk:k=off+n
    · subst hk;rw [if_neg (by omega),if_pos (by omega),Nat.sub_self];rw [Array.getElem?_setIfInBounds,if_pos rfl,if_pos (by omega)];rfl
    · by_cases hk2:off+(n+1)≤k∧k<off+(n+1)+l.length
      · rw [if_pos hk2,if_pos (by omega),show k-(off+n)=(k-(off+(n+1)))+1 by omega];rfl
      · rw [if_neg hk2,if_neg (by omega)];simp [Array.getElem?_setIfInBounds];omega
theorem fill_ok (fs:List (Nat × Nat × Bool)) (place:Nat→Option (Nat × Nat)) (hpl:∀ i x,fs[i]? = some x→place i=some (x.1,x.2.1)) (ρ:Operand→Value) (g:Operand→AV) (hg:∀ y,VR w S m (g y) (ρ y)) :
    ∀ (ps:List (Nat × Operand)) (cs:List AV) (cur:Array Value),cur.size=cs.length→(∀ (j:Nat) (x:AV) (u:Value),cs[j]? = some x→cur[j]? = some u→VR w S m x u)→(∀ p∈ps,cnd (g p.2))→fillOK fs cs.length (ps.map fun p=>(p.1,stp (g p.2))) →
      ∃ cur',Instr.fill place cur (ps.map fun p=>(p.1,ρ p.2))=some cur'∧cur'.size=cur.size∧(fillA fs cs (ps.map fun p=>(p.1,stp (g p.2)))).length=cs.length ∧
        ∀ (j:Nat) (x:AV) (u:Value),(fillA fs cs (ps.map fun p=>(p.1,stp (g p.2))))[j]? = some x→cur'[j]? = some u→VR w S m x u
  | [],cs,cur,hsz,hp,_,_=>⟨cur,rfl,rfl,rfl,hp⟩
  | p::ps,cs,cur,hsz,hp,hc,hok=>by
    have h1:=hok (p.1,stp (g p.2)) (by simp);obtain ⟨a1,a2,a3,a4,a5⟩:=h1;simp only at a1 a2 a3 a4 a5
    have hfs:=getD_of_lt (d:=(0,0,false)) a1;have hplace:=hpl _ _ hfs;generalize hx:fs.getD p.1 (0,0,false)=x at hfs a3 a4 a5 hplace;obtain ⟨o,s,r⟩:=x;simp only at a3 a4 a5 hplace
    obtain ⟨v1,v2,v3⟩:=cells_of ((hg p.2).strip (hc p (by simp))) a2;have hvs:(ρ p.2).cells.size=s:=by rw [v1,a3]
    obtain ⟨f1,f2⟩:=foldl_put o (ρ p.2).cells.toList 0 cur (by simp;omega);have hlen:(putL cs o (stp (g p.2)).cl).length=cs.length:=by simp [putL];omega
    have hfl:=fill_ok fs place hpl ρ g hg ps (putL cs o (stp (g p.2)).cl) _ (by rw [f1,hsz,hlen]) (fun j y u hy hu=>?_) (fun q hq=>hc q (by simp [hq])) (fun q hq=>by rw [hlen];exact hok q (by simp [hq]))
    · obtain ⟨cur',q1,q2,q3,q4⟩:=hfl;refine ⟨cur',?_,by rw [q2,f1],?_,?_⟩
      · simp only [List.map_cons,Instr.fill,hplace];rw [if_neg (by simp [hvs];omega)];have e:(ρ p.2).cells.zipIdx.foldl (fun cs (c,j)=>cs.setIfInBounds (o+j) c) cur=((ρ p.2).cells.toList.zipIdx 0).foldl (fun cs (c,j)=>cs.setIfInBounds (o+j) c) cur:=by
          rw [← Array.foldl_toList,Array.toList_zipIdx]
        rw [e];exact q1
      · simp only [List.map_cons,fillA,hx];rw [q3,hlen]
      · simp only [List.map_cons,fillA,hx];exact q4
    · rw [f2 j] at hu;simp only [Nat.add_zero,Array.length_toList,hvs] at hu;unfold putL at hy;split at hu
      · rename_i hj;obtain ⟨d,rfl⟩:∃ d,j=o+d:=⟨j-o,by omega⟩;rw [Nat.add_sub_cancel_left] at hu;rw [List.append_assoc,List.getElem?_append_right (by simp;omega),List.length_take,Nat.min_eq_left (by omega),Nat.add_sub_cancel_left,List.getElem?_append_left (by omega)] at hy;obtain ⟨u',h7,h8⟩:=v2 d y hy;have:u=u':=by
          have h9:(ρ p.2).cells[d]? = some u:=by simpa using hu
          rw [h7] at h9;injection h9 with h9;exact h9.symm
        rw [this];exact h8
      · rename_i hj;refine hp j y u ?_ hu;rcases Nat.lt_or_ge j o with hlt | hge
        · rw [List.append_assoc,List.getElem?_append_left (by simp;omega),List.getElem?_take,if_pos hlt] at hy;exact hy
        · rw [List.getElem?_append_right (by simp;omega),List.getElem?_drop] at hy;simp only [List.length_append,List.length_take] at hy;rw [a3,Nat.min_eq_left (by omega),show o+s+(j-(o+s))=j by omega] at hy;exact hy
end
end Go.TravelAbs
namespace Go.TravelAbs
open Go.RowKit Go.TravelBase
section
variable {P:Program} {ty:Ty} {X:Cx} {H:List (Nat × Blk)} {S:CSet} {m:RMap} {w:World}
theorem zero_pair {z:Value} {zero:List Value} (hcells:z.cells.toList=zero):z.cells.size=(zero.map AV.lit).length ∧ ∀ (j:Nat) (x:AV) (u:Value),(zero.map AV.lit)[j]? = some x→z.cells[j]? = some u→VR w S m x u:=by
  subst hcells;refine ⟨by simp,fun j x u hx hu=>?_⟩;rw [List.getElem?_map] at hx;obtain ⟨y,h1,rfl⟩:=Option.map_eq_some_iff.1 hx;have:y=u:=by
    have h2:z.cells.toList[j]? = some u:=by simpa using hu
    rw [h1] at h2;injection h2
  subst this;exact .lit _
theorem parts_list (parts:Array (Nat × Operand)) (ρ:Operand→Value):(parts.map fun (i,x)=>(i,ρ x)).toList=parts.toList.map fun p=>(p.1,ρ p.2):=by
  rw [Array.toList_map]
theorem run_sizeOf_raw {t:TypeId} {i:TypeInfo} (h:P.info? t=some i):(sizeOf t).run P w = .ok i.size w:=by
  simp [sizeOf,typeInfo,h]
theorem run_mapM_places (w:World):∀ (l:List Field),(∀ f∈l,∃ i,P.info? f.type=some i)→(l.mapM fun f=>(Prod.mk f.offset <$> sizeOf f.type:Sem (Nat × Nat))).run P w = .ok (l.map fun f=>(f.offset,((P.info? f.type).map (·.size)).getD 0)) w
  | [],_=>by simp
  | f::l,h=>by
    obtain ⟨i,hi⟩:=h f (by simp);have ih:=run_mapM_places w l (fun g hg=>h g (by simp [hg]));rw [List.mapM_cons];simp [run_sizeOf_raw hi,ih,hi]
theorem build_struct_ok (hT:TysOK P ty) (hM:Mem X H S m w) {t:TypeId} {fs:List (Nat × Nat × Bool)} {sz by':Nat} {zero:List Value} (ht:ty t=some ⟨.struct fs,sz,by',zero⟩) {g:Operand→AV} {ρ:Operand→Value} (hg:∀ y,VR w S m (g y) (ρ y)) {parts:Array (Nat × Operand)}
    (hc:∀ p∈parts.toList,cnd (g p.2)) (hok:fillOK fs zero.length (parts.toList.map fun p=>(p.1,stp (g p.2)))) (hfs:fs.all (fun x=>x.2.1 != 0)=true) (vc:Prop) :
    Post X H S m w ⟨.agg (fillA fs (zero.map .lit) (parts.toList.map fun p=>(p.1,stp (g p.2)))),[],vc⟩ ((do pure (.value (← Instr.build t (parts.map fun (i,x)=>(i,ρ x)))):Sem Next).run P w):=by
  obtain ⟨i,d,z,hi,hu,hs,hb,hzz,hcells,fields,rfl,hk⟩:=(hT.1 _ _ ht).ok;simp only at hcells
  obtain ⟨z1,z2⟩:=zero_pair (w:=w) (S:=S) (m:=m) hcells;have hinfo:∀ f∈fields.toList,fsz P f.type ≠ 0:=by
    intro f hf;obtain ⟨j,hj,e⟩:=List.getElem_of_mem hf;have h1:fs[j]? = some (f.offset,fsz P f.type,rowB (P.underlying f.type)):=by
      rw [← hk];simp only [fieldsB,List.getElem?_map,List.getElem?_eq_getElem hj,Option.map_some];rw [e]
    have:=List.all_eq_true.1 hfs _ (List.mem_of_getElem? h1);simpa using this
  have hmap:(fields.mapM fun f=>(Prod.mk f.offset <$> sizeOf f.type:Sem (Nat × Nat))).run P w = .ok (fields.toList.map fun f=>(f.offset,((P.info? f.type).map (·.size)).getD 0)).toArray w:=by
    have:=run_mapM_places (P:=P) w fields.toList (fun f hf=>by obtain ⟨⟨i,h,_⟩,_⟩:=size_of_getD (hinfo f hf);exact ⟨i,h⟩);rw [Array.mapM_eq_mapM_toList];simp [this]
  obtain ⟨cur',q1,q2,q3,q4⟩:=fill_ok fs (fun k=>((fields.toList.map fun f=>(f.offset,((P.info? f.type).map (·.size)).getD 0)).toArray)[k]?) (fun k x hx=>by
    rw [← hk] at hx;simp only [fieldsB,List.getElem?_map] at hx;obtain ⟨f,h1,rfl⟩:=Option.map_eq_some_iff.1 hx;have hf:=hinfo f (List.mem_of_getElem? h1);have e:fsz P f.type=((P.info? f.type).map (·.size)).getD 0:=by
      unfold fsz at hf ⊢;split
      · rfl
      · rename_i h;rw [if_neg h] at hf;exact absurd rfl hf
    simp only [List.getElem?_toArray,List.getElem?_map,h1,e];rfl) ρ g hg parts.toList (zero.map .lit) z.cells z1 z2 hc (by rw [List.length_map];exact hok)
  refine Post.pure hM rfl ?_ (.agg (by rw [q2,q3];exact z1) q4) (v:=.agg cur');have e3:=parts_list parts ρ;simp only [Sem.run_bind,Instr.build,zeroValue,typeInfo];simp [hi,hzz,run_underlying hu,hmap];simp at q1;simp [q1]
theorem fillA_full (fs:List (Nat × Nat × Bool)) (sz:Nat) (hfs:∀ i,i<fs.length→(fs.getD i (0,0,false)).1=i*sz) :
    ∀ (ps:List (Nat × AV)) (a:Nat) (pre rest:List AV),ps.map (·.1)=List.range' a ps.length→a+ps.length≤fs.length→pre.length=a*sz→rest.length=ps.length*sz→(∀ p∈ps,p.2.cl.length=sz) →
      fillA fs (pre++rest) ps=pre++ps.flatMap (fun p=>p.2.cl)
  | [],a,pre,rest,_,_,_,hr,_=>by
    have:rest=[]:=List.eq_nil_of_length_eq_zero (by simpa using hr);simp [fillA,this]
  | p::ps,a,pre,rest,hp,ha,hpre,hr,hl=>by
    simp only [List.map_cons,List.length_cons,List.range'_succ,List.cons.injEq] at hp;simp only [List.length_cons] at ha hr;have hpl:=hl p (by simp);have ho:=hfs p.1 (by omega);have e:putL (pre++rest) (fs.getD p.1 (0,0,false)).1 p.2.cl=(pre++p.2.cl)++rest.drop sz:=by
      rw [ho,hp.1];unfold putL;rw [List.take_append_of_le_length (by omega),List.take_of_length_le (by omega),hpl,← hpre,List.drop_length_add_append]
    show fillA fs (putL (pre++rest) (fs.getD p.1 (0,0,false)).1 p.2.cl) ps=_;rw [e,fillA_full fs sz hfs ps (a+1) (pre++p.2.cl) (rest.drop sz) hp.2 (by omega) (by simp [hpre,hpl,Nat.add_mul]) (by simp [hr,Nat.add_mul]) (fun q hq=>hl q (by simp [hq]))];simp
theorem flat_at (sz:Nat):∀ (ys:List AV),(∀ y∈ys,y.cl.length=sz) → ∀ (i j:Nat) (y z:AV),ys[i]? = some y→y.cl[j]? = some z→(ys.flatMap AV.cl)[i*sz+j]? = some z
  | [],_,i,j,y,z,h,_=>by simp at h
  | x::ys,hl,0,j,y,z,h,hz=>by
    simp only [List.getElem?_cons_zero,Option.some.injEq] at h;subst h;rw [List.flatMap_cons,Nat.zero_mul,Nat.zero_add,List.getElem?_append_left (List.getElem?_eq_some_iff.1 hz).1];exact hz
  | x::ys,hl,i+1,j,y,z,h,hz=>by
    have hx:=hl x (by simp);rw [List.flatMap_cons,Nat.add_mul,List.getElem?_append_right (by rw [hx];omega),hx,show i*sz+1*sz+j-sz=i*sz+j by omega];exact flat_at sz ys (fun y hy=>hl y (by simp [hy])) i j y z (by simpa using h) hz
theorem buildSlice_pos (hT:TysOK P ty) (hM:Mem X H S m w) {t e:TypeId} {te:TI} (hu:P.underlying t=some (.slice e)) (hte:ty e=some te) {fr:Nat} (hfr:lk H fr=none) {g:Operand→AV} {ρ:Operand→Value} (hg:∀ y,VR w S m (g y) (ρ y)) {parts:Array (Nat × Operand)} {len:Nat}
    (hc:∀ p∈parts.toList,cnd (g p.2)) (hp:parts.toList.map (·.1)=List.range len) (h0:0<len) (hs0:0<te.size) (hsm:len*te.size≤2 ^ 24) (hok:mkOK te (parts.toList.map fun p=>stp (g p.2))) (hu8:isU8 te=true→te.size=1) (vc:Prop) :
    Post X H S m w ⟨.sl fr te.size 0 len,[(fr,⟨mkC te (parts.toList.map fun p=>stp (g p.2)),0,false⟩)],vc⟩ ((do pure (.value (← Instr.buildSlice t len (parts.map fun (i,x)=>(i,ρ x)))):Sem Next).run P w):=by
  obtain ⟨i,d,z,hi,_,hs,hb,hzz,hcells,hk⟩:=(hT.1 _ _ hte).ok;have hlenp:parts.toList.length=len:=by
    have:=congrArg List.length hp;simpa using this
  let fs:List (Nat × Nat × Bool):=(List.range len).map fun i=>(i*te.size,te.size,false)
  have hfsl:fs.length=len:=by simp [fs]
  have hfsat:∀ i,i<len→fs.getD i (0,0,false)=(i*te.size,te.size,false):=by
    intro i hi;simp [fs,List.getD,hi]
  let cur:Array Value:=(Array.range (len*i.size)).map (z.cells[· % z.cells.size]!)
  let ps:=parts.toList.map fun p=>(p.1,stp (g p.2))
  have hps1:ps.map (·.1)=List.range len:=by rw [← hp];simp [ps]
  have hlt:∀ p∈parts.toList,p.1<len:=by
    intro p hpm;have:p.1∈parts.toList.map (·.1):=List.mem_map.2 ⟨p,hpm,rfl⟩;rw [hp] at this;simpa using this
  have hmem:∀ p∈parts.toList,stp (g p.2)∈parts.toList.map fun p=>stp (g p.2):=fun p hpm=>List.mem_map.2 ⟨p,hpm,rfl⟩;obtain ⟨cur',q1,q2,q3,q4⟩:=fill_ok (w:=w) (S:=S) (m:=m) fs (fun i=>some (i*te.size,te.size)) (fun k x hx=>by
    simp only [fs,List.getElem?_map] at hx;obtain ⟨y,h1,rfl⟩:=Option.map_eq_some_iff.1 hx;have hk:k<len:=by have:=(List.getElem?_eq_some_iff.1 h1).1;simpa using this
    rw [List.getElem?_range hk] at h1;injection h1 with h1;subst h1;rfl) ρ g hg parts.toList (List.replicate (len*te.size) .any) cur (by simp [cur,hs]) (fun j x u hx _=>by
      obtain rfl:=List.eq_of_mem_replicate (List.mem_of_getElem? hx);exact .any _) hc (fun x hx=>by
      obtain ⟨p,hpm,rfl⟩:=List.mem_map.1 hx;obtain ⟨o1,o2⟩:=hok.1 _ (hmem p hpm);have hl:=hlt p hpm;rw [hfsat p.1 hl];refine ⟨by rw [hfsl];exact hl,o1,o2,?_,by simp only;omega⟩;simp only [List.length_replicate];have:(p.1+1)*te.size≤len*te.size:=Nat.mul_le_mul_right _ hl;rw [Nat.add_mul] at this;omega)
  have hfull:=fillA_full fs te.size (fun i hi=>by rw [hfsat i (by omega)]) ps 0 [] (List.replicate (len*te.size) .any) (by rw [hps1];simp [ps,hlenp,List.range_eq_range']) (by simp [ps,hlenp,hfsl]) (by simp) (by simp [ps,hlenp]) (fun p hpm=>by
    obtain ⟨q,hq,rfl⟩:=List.mem_map.1 hpm;exact (hok.1 _ (hmem q hq)).2)
  simp only [List.nil_append] at hfull;change ∀ (j:Nat) (x:AV) (u:Value),(fillA fs (List.replicate (len*te.size) .any) ps)[j]? = some x→cur'[j]? = some u→VR w S m x u at q4
  rw [hfull] at q4;have hflat:ps.flatMap (fun p=>p.2.cl)=(parts.toList.map fun p=>stp (g p.2)).flatMap AV.cl:=by simp [ps,List.flatMap_map]
  rw [hflat] at q4;have hcs:cur'.size=len*te.size:=by rw [q2];simp [cur,hs]
  have hha:HA w S m te.size (mkC te (parts.toList.map fun p=>stp (g p.2))) cur':=by
    intro p hpn;rw [mkC_N] at hpn;rw [mkC_at hok hpn];have hx:=getD_of_lt (d:=AV.any) hpn;obtain ⟨o1,o2⟩:=hok.1 _ (List.mem_of_getElem? hx);refine ⟨o2,fun j y hy=>?_⟩;have hj:j<te.size:=by rw [← o2];exact (List.getElem?_eq_some_iff.1 hy).1
    have hat:=flat_at te.size _ (fun y hy=>(hok.1 y hy).2) p j _ y hx hy;have hlt:p*te.size+j<cur'.size:=by
      rw [hcs];simp only [List.length_map,hlenp] at hpn;exact row_mul hpn hj
    exact ⟨cur'[p*te.size+j],Array.getElem?_eq_getElem hlt,q4 _ y _ hat (Array.getElem?_eq_getElem hlt)⟩
  obtain ⟨hM',hadv⟩:=hM.new hfr e (cap:=len) (es:=te.size) hcs (mkC_E hok hu8) (by rw [mkC_N];simp;rw [← hlenp];simp) (by
    have:len≤len*te.size:=Nat.le_mul_of_pos_right _ hs0;have h2:maxLen=9223372036854775807:=rfl;omega) hha
  refine ⟨.slice (some ⟨w.heap.size,0,none⟩) len len,_,S,_,.inl ?_,hadv,hM',?_⟩
  · have hne:¬ (len*te.size=0):=by have:=Nat.mul_pos h0 hs0;omega
    have hno:¬ (16777216<len*te.size):=by omega
    have e1:Instr.fill (fun i=>some (i*te.size,te.size)) ((Array.range (len*te.size)).map (z.cells[· % z.cells.size]!)) (parts.toList.map fun p=>(p.1,ρ p.2))=some cur':=by
      have:cur=(Array.range (len*te.size)).map (z.cells[· % z.cells.size]!):=by simp only [cur,hs]
      rw [← this];exact q1
    simp [Instr.buildSlice,run_underlying hu,run_sizeOf_ok (hT.1 _ _ hte),zeroValue,typeInfo,hi,hzz,hne,hno,newRow];simp [e1]
  · exact .sl (k:=fr) (es:=te.size) (i:=0) (n:=len) (r:=⟨w.heap.size,len,te.size⟩) (A:=some ⟨w.heap.size,0,none⟩) (by simp [mset]) rfl (by simp) (by
      have:len≤len*te.size:=Nat.le_mul_of_pos_right _ hs0;have h2:maxLen=9223372036854775807:=rfl;show len≤_;omega) (fun _=>by simp) (fun h=>by cases h)
theorem buildSlice_ok (hT:TysOK P ty) (hM:Mem X H S m w) {t e:TypeId} {te:TI} (hu:P.underlying t=some (.slice e)) (hte:ty e=some te) {fr:Nat} (hfr:lk H fr=none) {g:Operand→AV} {ρ:Operand→Value} (hg:∀ y,VR w S m (g y) (ρ y)) {parts:Array (Nat × Operand)} {len:Nat}
    (hc:∀ p∈parts.toList,cnd (g p.2)) (hp:parts.toList.map (·.1)=List.range len) (h0:True) (hs0:0<te.size) (hsm:len*te.size≤2 ^ 24) (hok:mkOK te (parts.toList.map fun p=>stp (g p.2))) (hu8:isU8 te=true→te.size=1) (vc:Prop) :
    Post X H S m w ⟨.sl fr te.size 0 len,[(fr,⟨mkC te (parts.toList.map fun p=>stp (g p.2)),0,false⟩)],vc⟩ ((do pure (.value (← Instr.buildSlice t len (parts.map fun (i,x)=>(i,ρ x)))):Sem Next).run P w):=by
  rcases Nat.eq_zero_or_pos len with hl | hl
  · subst hl;have hpe:parts.toList=[]:=by
      have:=congrArg List.length hp;simp at this;simpa using this
    have hpe':parts = #[]:=by apply Array.ext';rw [hpe]
    subst hpe';obtain ⟨i,d,z,hi,_,hs,hb,hzz,hcells,hk⟩:=(hT.1 _ _ hte).ok;obtain ⟨hM',hadv⟩:=hM.new hfr e (c:=mkC te []) (cap:=0) (es:=te.size) (cur:=#[]) (by simp) (mkC_E (xs:=[]) (by simpa using hok) hu8) (by rw [mkC_N];simp) (Nat.zero_le _) (fun i hi=>by rw [mkC_N] at hi;simp at hi);refine ⟨.slice (some ⟨w.heap.size,0,none⟩) 0 0,_,S,_,.inl ?_,hadv,hM',?_⟩
    · have e0:(Array.map (fun x=>(default:Value)) (Array.range 0)) = #[]:=by simp [Array.range]
      simp [Instr.buildSlice,run_underlying hu,run_sizeOf_ok (hT.1 _ _ hte),Instr.fill,newRow,e0]
    · exact .sl (r:=⟨w.heap.size,0,te.size⟩) (by simp [mset]) rfl (Nat.le_refl _) (Nat.zero_le _) (fun _=>by simp) (fun h=>by cases h)
  · exact buildSlice_pos hT hM hu hte hfr hg hc hp hl hs0 hsm hok hu8 vc
theorem build_array_ok (hT:TysOK P ty) (hM:Mem X H S m w) {t e n:TypeId} {te:TI} {sz by':Nat} {zero:List Value} (ht:ty t=some ⟨.array n e,sz,by',zero⟩) (hte:ty e=some te) {g:Operand→AV} {ρ:Operand→Value} (hg:∀ y,VR w S m (g y) (ρ y)) {parts:Array (Nat × Operand)}
    (hc:∀ p∈parts.toList,cnd (g p.2)) (hok:fillOK ((List.range n).map fun i=>(i*te.size,te.size,false)) zero.length (parts.toList.map fun p=>(p.1,stp (g p.2)))) (vc:Prop) :
    Post X H S m w ⟨.agg (fillA ((List.range n).map fun i=>(i*te.size,te.size,false)) (zero.map .lit) (parts.toList.map fun p=>(p.1,stp (g p.2)))),[],vc⟩ ((do pure (.value (← Instr.build t (parts.map fun (i,x)=>(i,ρ x)))):Sem Next).run P w):=by
  obtain ⟨i,d,z,hi,_,hs,hb,hzz,hcells,hk⟩:=(hT.1 _ _ ht).ok;have hu:=und_array (hT.1 _ _ ht);simp only at hcells
  obtain ⟨z1,z2⟩:=zero_pair (w:=w) (S:=S) (m:=m) hcells;obtain ⟨cur',q1,q2,q3,q4⟩:=fill_ok (w:=w) (S:=S) (m:=m) ((List.range n).map fun i=>(i*te.size,te.size,false)) (fun i=>some (i*te.size,te.size)) (fun k x hx=>by
    simp only [List.getElem?_map] at hx;obtain ⟨y,h1,rfl⟩:=Option.map_eq_some_iff.1 hx;have hk:k<n:=by have:=(List.getElem?_eq_some_iff.1 h1).1;simpa using this
    rw [List.getElem?_range hk] at h1;injection h1 with h1;subst h1;rfl) ρ g hg parts.toList (zero.map .lit) z.cells z1 z2 hc (by rw [List.length_map];exact hok)
  refine Post.pure hM rfl ?_ (.agg (by rw [q2,q3];exact z1) q4) (v:=.agg cur');simp [Instr.build,zeroValue,typeInfo,hi,hzz,run_underlying hu,run_sizeOf_ok (hT.1 _ _ hte),q1]
theorem emp_ok (hT:TysOK P ty) (hM:Mem X H S m w) {t e:TypeId} {te:TI} (hu:P.underlying t=some (.slice e)) (hte:ty e=some te) {fr:Nat} (hfr:lk H fr=none) {c:AV} {v:Value} (hc:LR w S m c v) (kh km:IntKind) (vc:Prop) :
    Post X H S m w ⟨.sl fr (cE (emptyC te)) 0 0,[(fr,⟨emptyC te,0,false⟩)],vc⟩ ((do pure (.value (← Instr.sliceAt t v none (some (.int kh 0)) (some (.int km 0)))):Sem Next).run P w):=by
  obtain ⟨A,n,cap,rfl,_,_,_⟩:=hc;obtain ⟨hM',hadv⟩:=hM.newE hfr (c:=emptyC te) (emptyC_N te);refine ⟨.slice A 0 0,_,S,_,.inl ?_,hadv,hM',?_⟩
  · simp [Instr.sliceAt,Instr.slice,run_underlying hu,Instr.sliceBounds,Instr.sliceBound,asIntOf,run_sizeOf_ok (hT.1 _ _ hte)]
  · exact .sl (k:=fr) (es:=cE (emptyC te)) (i:=0) (n:=0) (r:=⟨0,0,cE (emptyC te)⟩) (by simp [mset]) rfl (Nat.le_refl _) (Nat.zero_le _) (fun h=>absurd h (by simp)) (fun _=>rfl)
theorem len_ok (hT:TysOK P ty) (hM:Mem X H S m w) {t:TypeId} {ti:TI} (ht:ty t=some ti) {x:AV} {v:Value} (hv:VR w S m x v) (n:Nat)
    (hn:(∃ e,ti.kind = .slice e∧((∃ bs,x = .by_ bs∧bs.length=n)∨(∃ es xs,x = .li es xs∧xs.length=n)∨(∃ k es i,x = .sl k es i n)∨(x = .lit (.slice none 0 0)∧n=0)))∨(ti.kind = .str ∧ ∃ s,x = .lit (.string s)∧s.size=n)∨(∃ e,ti.kind = .array n e)) (T:TypeId) (vc:Prop) :
    Post X H S m w ⟨.lit (.int .i64 n),[],vc⟩ ((do pure (.value (← Builtin.len_ #[t] T #[v])):Sem Next).run P w):=by
  obtain ⟨i,d,z,hi,hu,hs,hb,hzz,hcells,hk⟩:=(hT.1 _ _ ht).ok;rcases hn with ⟨e,hke,hx⟩ | ⟨hke,s,rfl,rfl⟩ | ⟨e,hke⟩
  · rw [hke] at hk;simp only [KOK] at hk;subst hk;have hA:∃ A c,v = .slice A n c:=by
      rcases hx with ⟨bs,rfl,hl⟩ | ⟨es,xs,rfl,hl⟩ | ⟨k,es,i,rfl⟩ | ⟨rfl,rfl⟩
      · cases hv with | by_ h1=>exact ⟨_,_,by rw [← hl,h1]⟩
      · cases hv with | li us h1=>exact ⟨_,_,by rw [← hl,h1]⟩
      · obtain ⟨r,A,_,_,_,_,_,_,rfl⟩:=hv.sl_inv;exact ⟨_,_,rfl⟩
      · rw [hv.lit_inv];exact ⟨_,_,rfl⟩
    obtain ⟨A,c,rfl⟩:=hA;exact Post.pure hM rfl (by simp [Builtin.len_,run_underlying hu,goInt]) (.lit _)
  · rw [hke] at hk;simp only [KOK] at hk;subst hk;rw [hv.lit_inv];exact Post.pure hM rfl (by simp [Builtin.len_,run_underlying hu,goInt]) (.lit _)
  · rw [hke] at hk;simp only [KOK] at hk;subst hk;exact Post.pure hM rfl (by simp [Builtin.len_,run_underlying hu,goInt]) (.lit _)
end
end Go.TravelAbs
namespace Go.TravelAbs
open Go.RowKit Go.TravelBase
section
variable {P:Program} {ty:Ty} {X:Cx} {H:List (Nat × Blk)} {S:CSet} {m:RMap} {w:World}
theorem minmax_ok (hM:Mem X H S m w) {k k':IntKind} {a b:Int} {u v:Value} (hu:VR w S m (.lit (.int k a)) u) (hv:VR w S m (.lit (.int k' b)) v) (at':Array TypeId) (T:TypeId) (vc:Prop) :
    Post X H S m w ⟨.lit (.int k (if b<a then b else a)),[],vc⟩ ((do pure (.value (← Builtin.min_ at' T #[u,v])):Sem Next).run P w) ∧
    Post X H S m w ⟨.lit (.int k (if a<b then b else a)),[],vc⟩ ((do pure (.value (← Builtin.max_ at' T #[u,v])):Sem Next).run P w):=by
  obtain rfl:=hu.lit_inv;obtain rfl:=hv.lit_inv;exact ⟨Post.pure hM rfl (by simp [Builtin.min_,Builtin.min2]) (.lit _),Post.pure hM rfl (by simp [Builtin.max_,Builtin.max2]) (.lit _)⟩
theorem list1 {α:Type} {a:Array α} {x:α} (h:a.toList=[x]):a = #[x]:=by apply Array.ext';rw [h]
theorem list2 {α:Type} {a:Array α} {x y:α} (h:a.toList=[x,y]):a = #[x,y]:=by apply Array.ext';rw [h]
set_option maxHeartbeats 2000000 in
theorem evM_ok (hT:TysOK P ty) (hM:Mem X H S m w) {g:Operand→AV} {ρ:Operand→Value} (hg:∀ y,VR w S m (g y) (ρ y)) {fr:Nat} (hfr:lk H fr=none) {o:Oper} {out:Out} (h:evM ty H fr g o.op=some out) (hvc:out.vc) :
    Post X H S m w out ((execOp ρ o).run P w):=by
  unfold execOp;unfold evM at h;split at h
  · rename_i e hop;rw [hop];split at h
    · rename_i ti ht;injection h with h;subst h;exact alloc_ok hT hM ht hfr hvc
    · cases h
  · rename_i e x hop;rw [hop];split at h
    · rename_i ti ht;injection h with h;subst h;obtain ⟨c1,c2,c3,c4⟩:=hvc;exact box_ok hM ((hg x).strip c1) hfr c2 c3 c4 _
    · cases h
  · rename_i t a hop;rw [hop];split at h
    · rename_i q1 ti k i off ht hs;split at h
      · rename_i b hb;injection h with h;subst h;obtain ⟨c1,c2,c3,c4⟩:=hvc;have hy:=(hg a).strip c1;rw [hs] at hy;exact ld_ptr hT hM ht hy hb c2 c3 c4 _
      · cases h
    · rename_i q1 ti x off ht hs;injection h with h;subst h;obtain ⟨c1,c2⟩:=hvc;have hy:=(hg a).strip c1;rw [hs] at hy;exact ld_ep hT hM ht hy c2 _
    · cases h
  · rename_i t a x hop;rw [hop];split at h
    · rename_i q1 ti k i off ht hs;split at h
      · rename_i b hb;injection h with h;subst h;obtain ⟨c1,c2,c3,c4,c5,c6,c7,c8,c9⟩:=hvc;have hy:=(hg a).strip c1;rw [hs] at hy;exact st_ok hT hM ht hy ((hg x).strip c2) hb c3 c4 c5 c6 c7 c8 c9 _
      · cases h
    · cases h
  · rename_i t parts hop;rw [hop];split at h
    · rename_i fs sz by' zero ht
      injection h with h;subst h;obtain ⟨c1,c2,c3⟩:=hvc;exact build_struct_ok hT hM ht hg c1 c2 c3 _
    · rename_i n e sz by' zero ht
      split at h
      · rename_i te hte;injection h with h;subst h;obtain ⟨c1,c2⟩:=hvc;exact build_array_ok hT hM ht hte hg c1 c2 _
      · cases h
    · cases h
  · rename_i t len parts hop;rw [hop];split at h
    · rename_i e q1 q2 q3 ht;split at h
      · rename_i te hte;injection h with h;subst h;obtain ⟨c1,c2,c3,c4,c5,c6,c7⟩:=hvc;exact buildSlice_ok hT hM (und_slice (hT.1 _ _ ht)) hte hfr hg c1 c2 c3 c4 c5 c6 c7 _
      · cases h
    · cases h
  · rename_i t l c hop;rw [hop];split at h
    · rename_i e q1 q2 q3 k1 x k2 y ht hl hc;split at h
      · rename_i te hte;injection h with h;subst h;obtain ⟨c1,c2,c3,c4,c5,c6,c7,c8,c9,c10⟩:=hvc;have hl':=(hg l).strip c1;rw [hl] at hl';have hc':=(hg c).strip c2;rw [hc] at hc';subst c4;have:=make_ok hT hM (und_slice (hT.1 _ _ ht)) hte hfr k1 k2 c3 c5 c6 c7 c8 c9 c10 (cnd (g l)∧cnd (g c)∧0≤x∧x=x∧te.bytes*x≤140737488355328∧x≤9223372036854775807∧te.size=1∧zOK te=true∧te.kind.row=false∧(isU8 te=true→te.zero=[.int .u8 0]));simp only [hl'.lit_inv,hc'.lit_inv];exact this
      · cases h
    · cases h
  · rename_i t x h' m' hop;rw [hop];split at h;rotate_left
    · cases h
    split at h
    · rename_i e q1 q2 q3 y a b ht ha hb;split at h
      · rename_i te c vc hte hl;injection h with h;subst h;obtain ⟨c1,c2,c3,c4,c5,c6⟩:=hvc;obtain ⟨kh,eh⟩:=idx_inv ((hg h').strip c2) ha;obtain ⟨km,em⟩:=idx_inv ((hg m').strip c3) hb;subst c4 c5;have:=emp_ok hT hM (und_slice (hT.1 _ _ ht)) hte hfr (asL_ok hM ((hg x).strip c1) hl c6) kh km (cnd (g x)∧cnd (g h')∧cnd (g m')∧(0:Int)=0∧(0:Int)=0∧vc);simp only [Option.map,eh,em];exact this
      · cases h
    · cases h
  · rename_i src dst x hop;rw [hop];split at h
    · rename_i q1 q2 q3 e q4 q5 q6 s hs hd hx;split at h
      · rename_i q7 q8 q9 he;injection h with h;subst h;obtain ⟨c1,c2⟩:=hvc;have h1:=(hg x).strip c1;rw [hx] at h1;have:=conv_ok hT hM hs hd he hfr s c2 (cnd (g x)∧s.size≤maxLen);show Post X H S m w _ ((do pure (.value (← convert src dst (ρ x))):Sem Next).run P w)
        rw [h1.lit_inv];exact this
      · cases h
    · cases h
  · rename_i args ats hop;rw [hop];split at h
    · rename_i x t hargs hats;obtain rfl:=list1 hargs;obtain rfl:=list1 hats;have key:∀ {out:Out},Post X H S m w out ((do pure (.value (← Builtin.len_ #[t] o.type #[ρ x])):Sem Next).run P w)→Post X H S m w out ((do let d ← resolve ρ ⟨.builtin .len,#[x],#[t]⟩ o.type;invoke d.target d.args:Sem Next).run P w):=by
        intro out hp;simpa [resolve,invoke,builtin] using hp
      refine key ?_;split at h
      · rename_i e q1 q2 q3 bs ht hs;injection h with h;subst h;have hy:=(hg x).strip hvc;rw [hs] at hy;exact len_ok hT hM ht hy _ (.inl ⟨_,rfl,.inl ⟨_,rfl,rfl⟩⟩) _ _
      · rename_i e q1 q2 q3 es xs ht hs;injection h with h;subst h;have hy:=(hg x).strip hvc;rw [hs] at hy;exact len_ok hT hM ht hy _ (.inl ⟨_,rfl,.inr (.inl ⟨_,_,rfl,rfl⟩)⟩) _ _
      · rename_i e q1 q2 q3 k es i n ht hs;injection h with h;subst h;have hy:=(hg x).strip hvc;rw [hs] at hy;exact len_ok hT hM ht hy _ (.inl ⟨_,rfl,.inr (.inr (.inl ⟨_,_,_,rfl⟩))⟩) _ _
      · rename_i e q1 q2 q3 ht hs;injection h with h;subst h;have hy:=(hg x).strip hvc;rw [hs] at hy;exact len_ok hT hM ht hy 0 (.inl ⟨_,rfl,.inr (.inr (.inr ⟨rfl,rfl⟩))⟩) _ _
      · rename_i q1 q2 q3 s ht hs;injection h with h;subst h;have hy:=(hg x).strip hvc;rw [hs] at hy;exact len_ok hT hM ht hy _ (.inr (.inl ⟨rfl,_,rfl,rfl⟩)) _ _
      · rename_i n e q1 q2 q3 ht;injection h with h;subst h;exact len_ok hT hM ht (.any _) _ (.inr (.inr ⟨_,rfl⟩)) _ _
      · cases h
    · cases h
  · rename_i args ats hop;rw [hop];split at h
    · rename_i x y hargs;obtain rfl:=list2 hargs;split at h
      · rename_i k a k' b hx hy;injection h with h;subst h;have h1:=(hg x).strip hvc.1;have h2:=(hg y).strip hvc.2;rw [hx] at h1;rw [hy] at h2;have:=(minmax_ok (P:=P) hM h1 h2 ats o.type (cnd (g x)∧cnd (g y))).1;simpa [resolve,invoke,builtin] using this
      · cases h
    · cases h
  · rename_i args ats hop;rw [hop];split at h
    · rename_i x y hargs;obtain rfl:=list2 hargs;split at h
      · rename_i k a k' b hx hy;injection h with h;subst h;have h1:=(hg x).strip hvc.1;have h2:=(hg y).strip hvc.2;rw [hx] at h1;rw [hy] at h2;have:=(minmax_ok (P:=P) hM h1 h2 ats o.type (cnd (g x)∧cnd (g y))).2;simpa [resolve,invoke,builtin] using this
      · cases h
    · cases h
  · rename_i args ats hop;rw [hop];split at h
    · rename_i s x t u hargs hats;obtain rfl:=list2 hargs;obtain rfl:=list2 hats;have key:∀ {out:Out},Post X H S m w out ((do pure (.value (← Builtin.append_ #[t,u] o.type #[ρ s,ρ x])):Sem Next).run P w)→Post X H S m w out ((do let d ← resolve ρ ⟨.builtin .append,#[s,x],#[t,u]⟩ o.type;invoke d.target d.args:Sem Next).run P w):=by
        intro out hp;simpa [resolve,invoke,builtin] using hp
      refine key ?_;split at h
      · rename_i e q1 q2 q3 c vc ht hl;split at h
        · rename_i te hte hs;injection h with h;subst h;obtain ⟨c1,c2,c3,c4,c5,c6,c7,c8,c9,c10⟩:=hvc;have h1:=(hg s).strip c1;rw [hs] at h1;have h2:=srcA_ok hT hM ((hg x).strip c2) hl c3;have:=append_nil_ok hT hM (und_slice (hT.1 _ _ ht)) hte h2 hfr c4 c5 c6 c7 c8 c9 c10 o.type (cnd (g s)∧cnd (g x)∧vc∧okL c∧catOK (emptyC te) c∧(cN c=0∨cE c=te.size)∧cN c*te.bytes≤140737488355328∧cN c≤maxLen∧cE (emptyC te)=te.size∧zOK te=true);rw [h1.lit_inv];exact this
        · rename_i te k es i n hte hs;split at h
          · rename_i b hb;split at h
            · split at h
              · injection h with h;subst h;obtain ⟨c1,c2,c3,c4,c5,c6,c7,c8,c9,c10,c11,c12,c13,c14⟩:=hvc;have h1:=(hg s).strip c1;rw [hs] at h1;subst c9;exact append_st_ok hT hM (und_slice (hT.1 _ _ ht)) hte (srcA_ok hT hM ((hg x).strip c2) hl c3) hfr h1 hb c4 c5 c6 c7 c8 c10 c11 c12 c13 c14 o.type _
              injection h with h;subst h;obtain ⟨c1,c2,c3,c4,c5,c6,c7,c8,c9,c10,c11,c12,c13,c14⟩:=hvc;have h1:=(hg s).strip c1;rw [hs] at h1;subst c9;exact append_sl_ok hT hM (und_slice (hT.1 _ _ ht)) hte (srcA_ok hT hM ((hg x).strip c2) hl c3) hfr h1 hb c4 c5 c6 c7 c8 c10 c11 c12 c13 c14 o.type _
            · injection h with h;subst h;obtain ⟨c1,c2,c3,c4,c5,c6,c7,c8,c9,c10,c11⟩:=hvc;have h1:=(hg s).strip c1;rw [hs] at h1;subst c9;exact append_in_ok hT hM (und_slice (hT.1 _ _ ht)) hte (srcA_ok hT hM ((hg x).strip c2) hl c3) h1 hb c4 c5 c6 c7 c8 c10 c11 o.type _
          · cases h
        · cases h
      · cases h
    · cases h
  · rename_i args ats hop;rw [hop];split at h
    · rename_i s x t u hargs hats;obtain rfl:=list2 hargs;obtain rfl:=list2 hats;have key:∀ {out:Out},Post X H S m w out ((do pure (.value (← Builtin.copy_ #[t,u] o.type #[ρ s,ρ x])):Sem Next).run P w)→Post X H S m w out ((do let d ← resolve ρ ⟨.builtin .copy,#[s,x],#[t,u]⟩ o.type;invoke d.target d.args:Sem Next).run P w):=by
        intro out hp;simpa [resolve,invoke,builtin] using hp
      refine key ?_;split at h
      · rename_i e q1 q2 q3 e' q4 q5 q6 c vc k es i n ht hu hl hs;split at h
        · rename_i te b hte hb;injection h with h;subst h;obtain ⟨c1,c2,c3,c4,c5,c6,c7,c8,c9,c10⟩:=hvc;have h1:=(hg s).strip c1;rw [hs] at h1;exact copy_ok hT hM (und_slice (hT.1 _ _ ht)) (und_slice (hT.1 _ _ hu)) hte (asL_ok hM ((hg x).strip c2) hl c3) h1 hb c4 c5 c6 c7 c8 c9 c10 o.type _
        · cases h
      · cases h
    · cases h
  · cases h
end
end Go.TravelAbs
namespace Go.TravelAbs
open Go.RowKit Go.TravelBase
section
variable {P:Program} {ty:Ty} {X:Cx} {H:List (Nat × Blk)} {S:CSet} {m:RMap} {w:World}
def Tr (x:AV):Prop:=∀ w S m v,VR w S m x v → ∀ m',VR w S m' x v
theorem Tr.lit (v:Value):Tr (.lit v):=fun w S m u h m'=>by rw [h.lit_inv];exact .lit v
theorem Tr.by_ (bs:List UInt8):Tr (.by_ bs):=fun w S m u h m'=>by
  cases h with
  | by_ h1 h2 h3 h4 h5=>exact .by_ h1 h2 h3 h4 h5
theorem Tr.any:Tr .any:=fun w S m u h m'=>.any u
theorem Tr.li {es:Nat} {xs:List AV} (hx:∀ x∈xs,∀ y∈x.cl,Tr y):Tr (.li es xs):=fun w S m u h m'=>by
  cases h with
  | li us h1 h2 h3 h4 h5 h6 h7 h8=>exact .li us h1 h2 h3 h4 h5 h6 h7 fun i j x y h9 h10=>hx x (List.mem_of_getElem? h9) y (List.mem_of_getElem? h10) _ _ _ _ (h8 i j x y h9 h10) m'
theorem Tr.agg {xs:List AV} (hx:∀ x∈xs,Tr x):Tr (.agg xs):=fun w S m u h m'=>by
  cases h with
  | agg h1 h2=>exact .agg h1 fun j x u h3 h4=>hx x (List.mem_of_getElem? h3) _ _ _ _ (h2 j x u h3 h4) m'
theorem Tr.tup {xs:List AV} (hx:∀ x∈xs,Tr x):Tr (.tup xs):=fun w S m u h m'=>by
  cases h with
  | tup h1 h2=>exact .tup h1 fun j x u h3 h4=>hx x (List.mem_of_getElem? h3) _ _ _ _ (h2 j x u h3 h4) m'
theorem Tr.cl {x:AV} (hx:Tr x) (h:isA x=false):∀ y∈x.cl,Tr y:=by
  rw [cl_single h];simpa using hx
theorem mset_self {k:Nat} {r:Row} (hr:m k=some r):mset m k r=m:=by
  funext j
  unfold mset;split
  · rename_i e;rw [e,hr]
  · rfl
theorem Mem.frz (h:Mem X H S m w) {k:Nat} {b:Blk} (hk:lk H k=some b) (h1:b.mode=0) (hln:b.ln=false) :
    ∃ S',Mem X ((k,⟨b.c,1,false⟩)::H) S' m w∧Adv S m w S' m w:=by
  obtain ⟨r,hr,h3⟩:=h.blk k b hk;rcases Nat.eq_zero_or_pos r.cap with hc | hc
  · have hB:=h3 (by omega);refine ⟨S,?_,Adv.refl _ _ _⟩;have:=h.upd (S':=S) (w':=w) k ⟨b.c,1,false⟩ r (.inr hr) (fun b o hb=>⟨hb,rfl⟩) h.frm h.s1 h.slt (fun j bj rj hj h1 h2 h3 h4=>⟨rfl,fun _ q=>q,fun _ h6=>by omega⟩) (fun _=>by
      rw [mset_self hr];have hl:=hB.len;exact ⟨hB.es,hB.len,hB.max,hB.rd,fun _ o ho=>by
                                                            have:cN b.c=0:=by omega
                                                            simp only [this,Nat.zero_mul] at ho;omega,fun _ h6=>by omega⟩)
    rwa [mset_self hr] at this
  · obtain ⟨q1,q2⟩:=h.freeze hk hr h1 hln hc;exact ⟨_,q1,q2⟩
def isL:AV→Bool
  | .by_ _=>true
  | .li _ _=>true
  | _=>false
theorem frozen_VR (h:Mem X H S m w) {k es i n:Nat} {b:Blk} (hk:lk H k=some b) (hL:isL b.c=true) (h1:b.mode=1) (hes:0<es) (hE:cE b.c=es) (hn:i+n≤cN b.c) {v:Value} (hv:VR w S m (.sl k es i n) v):VR w S m (sub b.c i n) v:=by
  obtain ⟨r,A,hr,he,hi,hmax,hA,h0,rfl⟩:=hv.sl_inv;obtain ⟨r',h2,h3⟩:=h.blk k b hk;rw [hr] at h2;injection h2 with h2;subst h2;have hB:=h3 (by omega);have hset:=hB.set (by omega);cases hc:b.c with
  | by_ bs =>
    rw [hc] at hn hE;simp only [cN,cE] at hn hE;subst hE;refine .by_ (by simp;omega) (by omega) (by omega) h0 ?_;rcases Nat.eq_zero_or_pos n with hn0 | hpos
    · exact .inl hn0
    · right;refine ⟨r.g,i*r.es,hA (by omega),fun j hj=>⟨hset _ ?_,?_⟩⟩
      · rw [hc,he];simp only [cN];omega
      · obtain ⟨_,q2⟩:=hB.rd (i+j) (by rw [hc];simp only [cN];omega);rw [hc] at q2;obtain ⟨u,h5,h6⟩:=q2 0 (bA (bs.getD (i+j) 0)) rfl;rw [h6.lit_inv] at h5;rw [he] at h5 ⊢;simp only [Nat.mul_one,Nat.add_zero] at h5 ⊢;rw [h5];congr 3
        simp only [List.getD];rw [List.getElem?_take,if_pos hj,List.getElem?_drop]
  | li es' xs =>
    rw [hc] at hn hE;simp only [cN,cE] at hn hE;subst hE;have hget:∀ {p:Nat} {x:AV},((xs.drop i).take n)[p]? = some x→p<n∧xs[i+p]? = some x:=by
      intro p x hx;rw [List.getElem?_take] at hx;split at hx
      · rename_i hp;rw [List.getElem?_drop] at hx;exact ⟨hp,hx⟩
      · cases hx
    have hat:∀ {q:Nat} {x:AV},xs[q]? = some x→cAt b.c q=x:=by
      intro q x hx;rw [hc];simp only [cAt,List.getD,hx];rfl
    have hlen:∀ {q:Nat} {x:AV},xs[q]? = some x→x.cl.length=es':=by
      intro q x hx;have hq:q<xs.length:=(List.getElem?_eq_some_iff.1 hx).1;obtain ⟨q1,_⟩:=hB.rd q (by rw [hc];exact hq);rw [hat hx,he] at q1;exact q1
    refine .li (fun p=>(w.cell? ⟨r.g,i*r.es+p,none⟩).getD undef) (by simp;omega) (by omega) (by omega) h0 hes (fun x hx=>?_) ?_ ?_
    · obtain ⟨p,hp,e⟩:=List.getElem_of_mem hx;exact hlen (hget (e ▸ List.getElem?_eq_getElem hp)).2
    · rcases Nat.eq_zero_or_pos n with hn0 | hpos
      · left;subst hn0;simp
      · right;refine ⟨r.g,i*r.es,hA (by omega),fun p hp=>⟨hset _ ?_,?_⟩⟩
        · rw [hc];simp only [cN];have h7:(i+n)*r.es≤xs.length*r.es:=Nat.mul_le_mul_right _ hn;rw [Nat.add_mul] at h7;rw [← he] at hp;omega
        · have hq:p / es'<n:=(Nat.div_lt_iff_lt_mul hes).2 hp;have hx:i+p / es'<xs.length:=by omega
          obtain ⟨q1,q2⟩:=hB.rd (i+p / es') (by rw [hc];exact hx);have hj:p % es'<(cAt b.c (i+p / es')).cl.length:=by rw [q1,he];exact Nat.mod_lt _ hes
          obtain ⟨u,h5,_⟩:=q2 (p % es') _ (List.getElem?_eq_getElem hj);rw [Nat.add_mul,Nat.add_assoc,he,Nat.mul_comm (p / es'),Nat.div_add_mod] at h5;rw [he];simp only [h5,Option.getD_some]
    · intro p j x y hx hy;obtain ⟨hp,hx'⟩:=hget hx;have hq:i+p<xs.length:=(List.getElem?_eq_some_iff.1 hx').1;obtain ⟨q1,q2⟩:=hB.rd (i+p) (by rw [hc];exact hq);rw [hat hx'] at q2;obtain ⟨u,h5,h6⟩:=q2 j y hy;rw [Nat.add_mul,Nat.add_assoc,he] at h5;rw [he];simp only [h5,Option.getD_some];exact h6
  | _=>rw [hc] at hL;cases hL
end
end Go.TravelAbs
