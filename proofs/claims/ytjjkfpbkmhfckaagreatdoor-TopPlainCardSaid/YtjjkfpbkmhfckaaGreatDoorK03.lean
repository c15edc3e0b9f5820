import Derived.Test.YtjjkfpbkmhfckaaGreatDoorAbsM
import Derived.Test.YtjjkfpbkmhfckaaGreatDoorRows
import Derived.Test.YtjjkfpbkmhfckaaGreatDoorK00
import Derived.Lib.Tables
set_option linter.unusedVariables false
set_option linter.unusedSimpArgs false
set_option maxHeartbeats 1000000
set_option maxRecDepth 10000
namespace Go.TravelAbs
open Go.RowKit Go.TravelBase
def byL:AV→List UInt8
  | .by_ bs=>bs
  | _=>[]
def evN (ty:Ty) (H:List (Nat × Blk)) (fr:Nat) (g:Operand→AV) (op:Op):Option Out :=
  match op with
  | .slice t x lo (some hi) (some mx) =>
    if (isZ hi && isZ mx && lo.isNone)=true then none else
    match ty t,stp (g x),(match lo with | none=>some 0 | some l=>idx (stp (g l))),idx (stp (g hi)),idx (stp (g mx)) with
    | some ⟨.slice e,_,_,_⟩,.by_ bs,some l,some h,some k =>
      match ty e with
      | some te=>some ⟨.by_ ((bs.take h.toNat).drop l.toNat),[],te.size=1∧cnd (g x)∧(∀ y∈lo,cnd (g y))∧cnd (g hi)∧cnd (g mx)∧0≤l∧l≤h∧h≤k∧k≤bs.length⟩
      | none=>none
    | some ⟨.slice e,_,_,_⟩,.sl kk es j n,some l,some h,some k =>
      match ty e,lk H kk with
      | some te,some b=>some ⟨.by_ (((byL (sub b.c j n)).take h.toNat).drop l.toNat),[(kk,⟨b.c,1,false⟩)],
          te.size=1∧cnd (g x)∧(∀ y∈lo,cnd (g y))∧cnd (g hi)∧cnd (g mx)∧0≤l∧l≤h∧h≤k∧k≤n∧isBy b.c=true∧b.mode=0∧b.ln=false∧es=1∧j+n≤cN b.c⟩
      | _,_=>none
    | _,_,_,_,_=>none
  | .slice t x none none none =>
    match ty t,stp (g x) with
    | some ⟨.array n e,_,_,_⟩,.ptr k i off =>
      match ty e,lk H k with
      | some te,some b =>
        if n=cE b.c then
          some ⟨.by_ ((cAt b.c 0).cl.map toB),[(k,⟨b.c,1,false⟩)],cnd (g x)∧i=0∧off=0∧cN b.c=1∧te.size=1∧b.mode=0∧b.ln=false∧(∀ y∈(cAt b.c 0).cl,byteOK y)∧n≤9223372036854775807⟩
        else some ⟨.asl k i off n,[],cnd (g x)∧te.size=1∧n≤9223372036854775807⟩
      | _,_=>none
    | _,_=>none
  | .call ⟨.builtin .copy,args,ats⟩ =>
    match args.toList,ats.toList with
    | [s,x],[t,u] =>
      match ty t,ty u,stp (g x),stp (g s) with
      | some ⟨.slice e,_,_,_⟩,some ⟨.slice _,_,_,_⟩,.by_ bs,.asl k i off n =>
        match ty e,lk H k with
        | some te,some b=>some ⟨.lit (.int .i64 (n:Nat)),[(k,⟨setE b.c i (putX (cAt b.c i) off (bs.map bA)),0,b.ln⟩)],cnd (g s)∧cnd (g x)∧te.size=1∧bs.length=n∧0<n∧i<cN b.c∧off+n≤cE b.c∧b.mode=0∧isBy b.c=false⟩
        | _,_=>none
      | _,_,_,_=>none
    | _,_=>none
  | .call ⟨.builtin .append,args,ats⟩ =>
    match args.toList,ats.toList with
    | [s,x],[t,u] =>
      match ty t,ty u,stp (g x),stp (g s) with
      | some ⟨.slice e,_,_,_⟩,some ⟨.int _,_,_,_⟩,.lit (.int _ z),.sl k es i n =>
        match ty e,lk H k with
        | some te,some b=>some ⟨.sl fr es 0 (n+z.toNat),[(fr,⟨catC b.c (.by_ (List.replicate z.toNat 0)),0,false⟩),(k,⟨b.c,3,false⟩)],cnd (g s)∧cnd (g x)∧0≤z∧te.size=1∧te.zero=[.int .u8 0]∧isBy b.c=true∧(n+z.toNat)*te.bytes≤140737488355328∧n+z.toNat≤maxLen ∧
            i=0∧n=cN b.c∧b.mode=0∧b.ln=false∧es=te.size∧zOK te=true⟩
        | _,_=>none
      | _,_,_,_=>none
    | _,_=>none
  | .sliceToArrayPointer t x =>
    match ty t,stp (g x) with
    | some ⟨.array n e,_,_,_⟩,.by_ bs=>some ⟨.ep (.agg ((bs.take n).map bA)) 0,[],cnd (g x)∧n≤bs.length∧0<n⟩
    | some ⟨.array n e,_,_,_⟩,.li es xs=>some ⟨.ep (.agg (xs.take n)) 0,[],cnd (g x)∧n≤xs.length∧0<n∧es=1 ∧ ∀ y∈xs,isA y=false⟩
    | _,_=>none
  | .makeFunc (.func f) fst caps=>if caps.isEmpty then some ⟨.bm f (fst.toList.map fun x=>stp (g x)),[],∀ x∈fst.toList,cnd (g x)⟩ else none
  | _=>none
section
variable {P:Program} {ty:Ty} {X:Cx} {H:List (Nat × Blk)} {S:CSet} {m:RMap} {w:World}
theorem VR.by_cut {bs:List UInt8} {u:Value} (hv:VR w S m (.by_ bs) u):∃ A n c,u = .slice A n c∧bs.length=n∧n≤c ∧
    ∀ l h k,l≤h→h≤k→k≤n→VR w S m (.by_ ((bs.take h).drop l)) (.slice (if k=l then A else A.map (·.add (l*1))) (h-l) (k-l)):=by
  cases hv with
  | by_ hn hc hm h0 hA =>
    rename_i A n c;refine ⟨A,n,c,rfl,hn,hc,fun l h k h1 h2 h3=>?_⟩;have hv2:VR w S m (.by_ (bs.take k)) (.slice A k k):=by
      refine .by_ (by simp;omega) (Nat.le_refl _) (by omega) (fun e=>by have:=h0 e;omega) ?_;rcases hA with hA | ⟨b,off,e,hA⟩
      · exact .inl (by omega)
      · refine .inr ⟨b,off,e,fun i hi=>⟨(hA i (by omega)).1,(hA i (by omega)).2.trans ?_⟩⟩;congr 3
        simp only [List.getD];rw [List.getElem?_take,if_pos hi]
    obtain ⟨A',n',c',e,h4,h5,h6⟩:=hv2.by_sub;injection e with e1 e2 e3;subst e1 e2 e3;have:=h6 l h h1 (by omega);rw [List.take_take,Nat.min_eq_left h2] at this;exact this
theorem run_slice3_ok {t e:TypeId} {te:TI} (ht:P.underlying t=some (.slice e)) (he:TyOK P e te) (A:Option Addr) (n c:Nat) (lo:Option Value) (kh km:IntKind) (l h k:Int)
    (hlo:lo=none∧l=0 ∨ ∃ k,lo=some (.int k l)) (h0:0≤l) (h1:l≤h) (h2:h≤k) (hc:k≤c) :
    (Instr.sliceAt t (.slice A n c) lo (some (.int kh h)) (some (.int km k))).run P w = .ok (.slice (if k.toNat=l.toNat then A else A.map (·.add (l.toNat*te.size))) (h.toNat-l.toNat) (k.toNat-l.toNat)) w:=by
  have e1:(h.toNat:Int)=h:=Int.toNat_of_nonneg (by omega);have e2:(l.toNat:Int)=l:=Int.toNat_of_nonneg (by omega);have e3:(k.toNat:Int)=k:=Int.toNat_of_nonneg (by omega);have b1:0≤k:=by omega
  have b2:0≤h:=by omega
  rcases hlo with ⟨rfl,rfl⟩ | ⟨k1,rfl⟩ <;>
    simp [Instr.sliceAt,Instr.slice,run_underlying ht,Instr.sliceBounds,Instr.sliceBound,asIntOf,e1,e2,e3,b1,b2,h0,h1,h2,hc,run_sizeOf_ok he]
theorem run_slicearr_ok {t e:TypeId} {te:TI} {n:Nat} (ht:P.underlying t=some (.array n e)) (he:TyOK P e te) (b o:Nat) :
    (Instr.sliceAt t (.pointer (some ⟨b,o,none⟩)) none none none).run P w = .ok (.slice (some ⟨b,o,none⟩) n n) w:=by
  simp [Instr.sliceAt,run_underlying ht,Instr.sliceBounds,Instr.sureAddr,run_sizeOf_ok he,TravelBase.add_plain]
theorem arr_by (hM:Mem X H S m w) {k:Nat} {b:Blk} {r:Row} (hk:lk H k=some b) (hr:m k=some r) (h1:b.mode=1) (hN:cN b.c=1) (hb:∀ y∈(cAt b.c 0).cl,byteOK y) (hn:cE b.c≤maxLen) :
    VR w S m (.by_ ((cAt b.c 0).cl.map toB)) (.slice (some ⟨r.g,0,none⟩) (cE b.c) (cE b.c)):=by
  obtain ⟨r',h2,h3⟩:=hM.blk k b hk;rw [hr] at h2;injection h2 with h2;subst h2;have hB:=h3 (by omega);obtain ⟨hl,hrd⟩:=hB.rd 0 (by omega);rw [hB.es] at hl hrd;refine .by_ (by rw [List.length_map,hl]) (Nat.le_refl _) hn (fun e=>by cases e) (.inr ⟨r.g,0,rfl,fun i hi=>⟨?_,?_⟩⟩)
  · rw [Nat.zero_add];exact hB.set (by omega) i (by rw [hN,hB.es];omega)
  · have hi2:i<(cAt b.c 0).cl.length:=by omega
    obtain ⟨u,h5,h6⟩:=hrd i _ (List.getElem?_eq_getElem hi2);have h7:byteOK ((cAt b.c 0).cl[i]):=hb _ (List.getElem_mem hi2);have h8:=h6;rw [h7] at h8;have h9:=h8.lit_inv;rw [Nat.zero_mul] at h5;rw [h5,h9];simp [List.getD,List.getElem?_eq_getElem hi2]
theorem putC (hM:Mem X H S m w) {k i off:Nat} {b:Blk} {r:Row} (hb:lk H k=some b) (hr:m k=some r) (hm:b.mode=0) (hi:i<cN b.c) {ys:List AV} {news:List Value} (hl:news.length=ys.length) (h0:0<ys.length)
    (ho:off+ys.length≤cE b.c) (hone:∀ z∈ys,z.one=true) (hby:isBy b.c=false) (c2:∀ (d:Nat) (z:AV),ys[d]? = some z → ∃ u,news[d]? = some u∧VR w S m z u) :
    (Mem X ((k,⟨setE b.c i (putX (cAt b.c i) off ys),0,b.ln⟩)::H) S m (w.setCells r.g (i*r.es+off) news)∧Adv S m w S m (w.setCells r.g (i*r.es+off) news)) ∧
      (∀ j,j<news.length→(w.cell? ⟨r.g,i*r.es+off+j,none⟩).isSome=true) ∧ ∀ j,j<news.length→w.frozen? ⟨r.g,i*r.es+off+j,none⟩=false:=by
  obtain ⟨r',h1,h2⟩:=hM.blk k b hb;rw [hr] at h1;injection h1 with h1;subst h1;have hB:=h2 (by omega);have hlen:=hB.len;have hes:=hB.es;obtain ⟨_,⟨cur,T,q2,q3⟩,_⟩:=hB.row (by omega) (by omega);obtain ⟨hxl,hxr⟩:=hB.rd i hi;have hin:i*r.es+off+ys.length≤r.cap*r.es:=by
    have:(i+1)*r.es≤r.cap*r.es:=Nat.mul_le_mul_right _ (by omega);rw [Nat.add_mul] at this;omega
  have hcell:∀ j,j<news.length→(w.cell? ⟨r.g,i*r.es+off+j,none⟩).isSome=true:=by
    intro j hj;have hlt:i*r.es+off+j<cur.size:=by omega
    unfold World.cell?;rw [q2];simp [hlt]
  have hfz:∀ j,j<news.length→w.frozen? ⟨r.g,i*r.es+off+j,none⟩=false:=by
    intro j hj;unfold World.frozen?;rw [q2];simp
  refine ⟨?_,hcell,hfz⟩;have hyl:ys ≠ []:=fun e=>by rw [e] at h0;simp at h0
  have hcl:=putX_cl (x:=cAt b.c i) (off:=off) (ys:=ys) (by rw [hxl];omega) hyl hone;have hbyc:(∃ bs,b.c = .by_ bs)→byteOK (putX (cAt b.c i) off ys):=fun ⟨bs,e⟩=>by rw [e] at hby;cases hby
  obtain ⟨n1,n2⟩:=setE_N b.c i (putX (cAt b.c i) off ys);refine hM.put hb hr hm (c':=setE b.c i (putX (cAt b.c i) off ys)) (o:=i*r.es+off) (vs:=news) n1 n2 (fun e=>by rw [e] at hl;simp at hl;omega) (by omega) (by rw [hl];exact hin) (fun p hp=>?_);rw [n1] at hp;by_cases hpi:p=i
  · subst hpi;rw [setE_eq hi hbyc];refine ⟨by rw [hcl];simp;omega,fun j z hz=>?_⟩;rw [hcl] at hz;have hcase:∀ (j:Nat),(off≤j∧j<off+ys.length)∨(j<off∨off+ys.length≤j):=fun j=>by omega
    rcases hcase j with ⟨ha,hb'⟩ | hout
    · obtain ⟨d,rfl⟩:∃ d,j=off+d:=⟨j-off,by omega⟩;have hd:d<ys.length:=by omega
      have hz':ys[d]? = some z:=by
        rw [List.append_assoc,List.getElem?_append_right (by simp;omega),List.length_take,Nat.min_eq_left (by omega),Nat.add_sub_cancel_left,List.getElem?_append_left hd] at hz;exact hz
      obtain ⟨uu,h7,h8⟩:=c2 d z hz';refine ⟨uu,?_,h8⟩;have hdl:d<news.length:=by omega
      have:=World.cell?_setCells_in r.g news (p*r.es+off) w (fun q hq=>hcell q hq) d hdl;rw [← Nat.add_assoc,this];rw [List.getElem?_eq_getElem hdl] at h7;exact h7
    · have hz':(cAt b.c p).cl[j]? = some z:=by
        rcases hout with hj | hj
        · rw [List.append_assoc,List.getElem?_append_left (by simp;omega),List.getElem?_take,if_pos hj] at hz;exact hz
        · rw [List.getElem?_append_right (by simp;omega),List.getElem?_drop] at hz;simp only [List.length_append,List.length_take] at hz;rw [Nat.min_eq_left (by omega),show off+ys.length+(j-(off+ys.length))=j by omega] at hz;exact hz
      obtain ⟨uu,h7,h8⟩:=hxr j z hz';refine ⟨uu,?_,h8⟩;rw [World.cell?_setCells_out r.g _ _ _ _ (fun _ _=>by simp only;omega)];exact h7
  · rw [setE_ne hpi];obtain ⟨h5,h6⟩:=hB.rd p hp;refine ⟨h5,fun j z hz=>?_⟩;obtain ⟨uu,h7,h8⟩:=h6 j z hz;refine ⟨uu,?_,h8⟩;have hj:j<r.es:=by rw [← h5];exact (List.getElem?_eq_some_iff.1 hz).1
    rw [World.cell?_setCells_out r.g _ _ _ _ (fun _ _=>?_)]
    · exact h7
    · simp only
      rcases Nat.lt_or_gt_of_ne hpi with hlt | hgt
      · left;have:(p+1)*r.es≤i*r.es:=Nat.mul_le_mul_right _ hlt;rw [Nat.add_mul] at this;omega
      · right;have:(i+1)*r.es≤p*r.es:=Nat.mul_le_mul_right _ hgt;rw [Nat.add_mul] at this;omega
theorem copyA_ok (hT:TysOK P ty) (hM:Mem X H S m w) {t u e e':TypeId} {te:TI} (hu:P.underlying t=some (.slice e)) (hu':P.underlying u=some (.slice e')) (hte:ty e=some te) {bs:List UInt8} {v vs:Value} (hv:VR w S m (.by_ bs) v)
    {k i off n:Nat} (hvs:VR w S m (.asl k i off n) vs) {b:Blk} (hb:lk H k=some b)
    (hes:te.size=1) (hn:bs.length=n) (h0:0<n) (hi:i<cN b.c) (ho:off+n≤cE b.c) (hmd:b.mode=0) (hby:isBy b.c=false) (T:TypeId) (vc:Prop) :
    Post X H S m w ⟨.lit (.int .i64 (n:Nat)),[(k,⟨setE b.c i (putX (cAt b.c i) off (bs.map bA)),0,b.ln⟩)],vc⟩ ((do pure (.value (← Builtin.copy_ #[t,u] T #[vs,v])):Sem Next).run P w):=by
  obtain ⟨ie,d,z,hie,_,hs,_⟩:=(hT.1 _ _ hte).ok;obtain ⟨r,hr,rfl⟩:∃ r,m k=some r∧vs = .slice (some ⟨r.g,i*r.es+off,none⟩) n n:=by
    cases hvs with
    | asl h=>exact ⟨_,h,rfl⟩
  have hc:LR w S m (.by_ bs) v:=asL_ok hM hv rfl trivial;have hv':∃ A' cap',v = .slice A' n cap':=by
    obtain ⟨A',n',cap',h,h',_⟩:=hc;exact ⟨A',cap',by rw [h,← h',← hn];rfl⟩
  obtain ⟨A',cap',rfl⟩:=hv';obtain ⟨news,hsrc,hha⟩:=hc.news (P:=P) (es:=te.size) (.inr (by rw [hes];rfl)) trivial hu';have hcn:cN (AV.by_ bs)=n:=hn;rw [hcn] at hsrc;have hnl:news.length=n*te.size:=hsrc.newsLen;rw [hes,Nat.mul_one] at hnl;have hfirst:(Builtin.firstCells te.size n (.slice A' n cap')).run P w = .ok news.toArray w:=by
    have h:=hsrc.cells;cases A' <;> exact h
  have hr1:(Builtin.copy_ #[t,u] T #[.slice (some ⟨r.g,i*r.es+off,none⟩) n n,.slice A' n cap']).run P w=((storeCells ⟨r.g,i*r.es+off,none⟩ news).run P w).andThen (fun _ w'=>.ok (goInt (n:Nat)) w'):=by
    simp [Builtin.copy_,run_underlying hu,sizeOf,typeInfo,hie,hs,Builtin.lenOf,hfirst]
  obtain ⟨⟨hM',hadv⟩,hcell,hfz⟩:=putC hM hb hr hmd hi (ys:=bs.map bA) (news:=news) (off:=off) (by rw [List.length_map,hnl,hn]) (by rw [List.length_map];omega) (by rw [List.length_map];omega) (fun z hz=>by obtain ⟨q,_,rfl⟩:=List.mem_map.1 hz;rfl) hby (fun d z hz=>by
    have hd:d<bs.length:=by
      have:=(List.getElem?_eq_some_iff.1 hz).1;simpa using this
    obtain ⟨h5,h6⟩:=hha d (by rw [hcn];omega);rw [List.getElem?_map,List.getElem?_eq_getElem hd] at hz;simp only [Option.map_some,Option.some.injEq] at hz;subst hz;have h7:(cAt (.by_ bs) d).cl[0]? = some (bA bs[d]):=by simp [cAt,List.getD,List.getElem?_eq_getElem hd,AV.cl,bA]
    obtain ⟨u,h8,h9⟩:=h6 0 _ h7;rw [hes,Nat.mul_one,Nat.add_zero] at h8;exact ⟨u,by simpa using h8,h9⟩)
  have hst:=run_storeCells_cells (P:=P) r.g (i*r.es+off) news 0 w (by simpa using hcell) (by simpa using hfz) hsrc.one;simp only [Nat.add_zero] at hst;exact ⟨_,_,S,m,.inl (by simp [hr1,hst];rfl),hadv,hM',.lit _⟩
theorem evN_ok (hT:TysOK P ty) (hM:Mem X H S m w) {g:Operand→AV} {ρ:Operand→Value} (hg:∀ y,VR w S m (g y) (ρ y)) {o:Oper} {out:Out} {fr:Nat} (hfr:lk H fr=none) (h:evN ty H fr g o.op=some out) (hvc:out.vc) :
    Post X H S m w out ((execOp ρ o).run P w):=by
  unfold execOp;unfold evN at h;split at h
  · rename_i t x lo hi mx hop;rw [hop];split at h
    · cases h
    split at h
    · rename_i q1 q2 e q3 q4 q5 bs l hh k ht hs hl hhi hk;split at h
      · rename_i te hte;injection h with h;subst h;obtain ⟨c0,c1,c2,c3,c4,c5,c6,c7,c8⟩:=hvc;have hy:=(hg x).strip c1;rw [hs] at hy;obtain ⟨A,n,c,e1,hn,hnc,hv⟩:=hy.by_cut;obtain ⟨kh,eh⟩:=idx_inv ((hg hi).strip c3) hhi;obtain ⟨km,em⟩:=idx_inv ((hg mx).strip c4) hk;have hlo:=bound_lo hg hl c2;have hb:=hv l.toNat hh.toNat k.toNat (by omega) (by omega) (by omega);refine Post.pure hM rfl ?_ hb;have hrun:=run_slice3_ok (P:=P) (w:=w) (und_slice (hT.1 _ _ ht)) (hT.1 _ _ hte) A n c (lo.map ρ) kh km l hh k ?_ c5 c6 c7 (by omega)
        · rw [c0] at hrun;simp [e1,eh,em,hrun]
        · rcases hlo with ⟨h1,h2⟩ | ⟨z,k,h1,h2⟩
          · exact .inl ⟨by simp [h1],h2⟩
          · exact .inr ⟨k,by simp [h1,h2]⟩
      · cases h
    · rename_i q1 q2 e q3 q4 q5 kk es j n l hh k ht hs hl hhi hk;split at h
      · rename_i te b hte hb;injection h with h;subst h;obtain ⟨c0,c1,c2,c3,c4,c5,c6,c7,c8,c9,c10,c11,c12,c13⟩:=hvc;have hy:=(hg x).strip c1;rw [hs] at hy;obtain ⟨S',f1,f2⟩:=hM.frz hb c10 c11;obtain ⟨bs,hbs⟩:∃ bs,b.c = .by_ bs:=by
          cases hc:b.c <;> rw [hc] at c9 <;> first | exact ⟨_,rfl⟩ | cases c9
        have hL:isL b.c=true:=by rw [hbs];rfl
        have hE:cE b.c=es:=by rw [hbs,c12];rfl
        have hv0:=frozen_VR f1 (k:=kk) (b:=⟨b.c,1,false⟩) (by simp [lk]) hL rfl (by omega) hE c13 (hy.adv f2);have hsb:sub b.c j n = .by_ ((bs.drop j).take n):=by rw [hbs];rfl
        have hv1:VR w S' m (.by_ ((bs.drop j).take n)) (ρ x):=by
          have:=hv0;rw [show (⟨b.c,1,false⟩:Blk).c=b.c from rfl,hsb] at this
          exact this
        obtain ⟨A,n',c,e1,hn,hnc,hv⟩:=hv1.by_cut;have hn2:n'=n:=by
          rw [← hn,List.length_take,List.length_drop];rw [hbs] at c13;simp only [cN] at c13;omega
        obtain ⟨kh,eh⟩:=idx_inv ((hg hi).strip c3) hhi;obtain ⟨km,em⟩:=idx_inv ((hg mx).strip c4) hk;have hlo:=bound_lo hg hl c2;have hb2:=hv l.toNat hh.toNat k.toNat (by omega) (by omega) (by omega);refine ⟨.slice (if k.toNat=l.toNat then A else A.map (·.add (l.toNat*1))) (hh.toNat-l.toNat) (k.toNat-l.toNat),w,S',m,.inl ?_,f2,f1,?_⟩
        · have hrun:=run_slice3_ok (P:=P) (w:=w) (und_slice (hT.1 _ _ ht)) (hT.1 _ _ hte) A n' c (lo.map ρ) kh km l hh k ?_ c5 c6 c7 (by omega)
          · rw [c0] at hrun;simp only [e1,Option.map_some,eh,em];rw [Sem.run_bind,hrun];rfl
          · rcases hlo with ⟨h1,h2⟩ | ⟨z,k,h1,h2⟩
            · exact .inl ⟨by simp [h1],h2⟩
            · exact .inr ⟨k,by simp [h1,h2]⟩
        · rw [hsb];exact hb2
      · cases h
    · cases h
  · rename_i t x hop;rw [hop];split at h
    · rename_i q1 n e q3 q4 q5 k i off ht hs;split at h
      · rename_i te b hte hb;have hp:∀ {c},cnd (g x)→c→VR w S m (.ptr k i off) (ρ x):=fun c1 _=>by
          have hy:=(hg x).strip c1;rw [hs] at hy;exact hy
        split at h
        · rename_i hne;injection h with h;subst h;obtain ⟨c1,rfl,rfl,c4,c5,c6,c7,c8,c9⟩:=hvc;obtain ⟨r,hr,er⟩:=(hp c1 trivial).ptr_inv;obtain ⟨S',f1,f2⟩:=hM.frz hb c6 c7;refine ⟨.slice (some ⟨r.g,0,none⟩) n n,w,S',m,.inl ?_,f2,f1,?_⟩
          · have hrun:=run_slicearr_ok (P:=P) (w:=w) (und_array (hT.1 _ _ ht)) (hT.1 _ _ hte) r.g (0*r.es+0);simp only [er,Option.map_none];rw [Sem.run_bind,hrun];simp
          · have:=arr_by f1 (k:=k) (b:=⟨b.c,1,false⟩) (r:=r) (by simp [lk]) hr rfl c4 c8 (by rw [← hne];exact c9);rw [hne];exact this
        · injection h with h;subst h;obtain ⟨c1,c2,c3⟩:=hvc;obtain ⟨r,hr,er⟩:=(hp c1 trivial).ptr_inv;refine Post.pure (v:=.slice (some ⟨r.g,i*r.es+off,none⟩) n n) hM rfl ?_ (.asl hr);have hrun:=run_slicearr_ok (P:=P) (w:=w) (und_array (hT.1 _ _ ht)) (hT.1 _ _ hte) r.g (i*r.es+off);simp only [er,Option.map_none];rw [Sem.run_bind,hrun];rfl
      · cases h
    · cases h
  · rename_i args ats hop;rw [hop];split at h
    · rename_i s x t u ea eat;split at h
      · rename_i q1 q2 e q3 q4 q5 q6 q7 e' q8 q9 q10 q11 bs k i off n ht hu hx hs;split at h
        · rename_i te b hte hb;injection h with h;subst h;obtain ⟨c1,c2,c3,c4,c5,c6,c7,c8,c9⟩:=hvc;have hys:=(hg s).strip c1;have hyx:=(hg x).strip c2;rw [hs] at hys;rw [hx] at hyx;obtain rfl:args = #[s,x]:=by cases args;simp_all
          obtain rfl:ats = #[t,u]:=by cases ats;simp_all
          have key:∀ {out:Out},Post X H S m w out ((do pure (.value (← Builtin.copy_ #[t,u] o.type #[ρ s,ρ x])):Sem Next).run P w)→Post X H S m w out ((do let d ← resolve ρ ⟨.builtin .copy,#[s,x],#[t,u]⟩ o.type;invoke d.target d.args:Sem Next).run P w):=by
            intro out hp;simpa [resolve,invoke,builtin] using hp
          refine key ?_;exact copyA_ok hT hM (und_slice (hT.1 _ _ ht)) (und_slice (hT.1 _ _ hu)) hte hyx hys hb c3 c4 c5 c6 c7 c8 c9 o.type _
        · cases h
      · cases h
    · cases h
  · rename_i args ats hop;rw [hop];split at h
    · rename_i s x t u ea eat;split at h
      · rename_i q0 q1 q2 e q4 q5 q6 kn q8 q9 q10 kq z k es i n ht hu hx hs;split at h
        · rename_i te b hte hb;injection h with h;subst h;obtain ⟨c1,c2,c3,c4,c5,c6,c7,c8,c9,c10,c11,c12,c13,c14⟩:=hvc;have hys:=(hg s).strip c1;have hyx:=(hg x).strip c2;rw [hs] at hys;rw [hx] at hyx;obtain rfl:args = #[s,x]:=by cases args;simp_all
          obtain rfl:ats = #[t,u]:=by cases ats;simp_all
          have key:∀ {out:Out},Post X H S m w out ((do pure (.value (← Builtin.append_ #[t,u] o.type #[ρ s,ρ x])):Sem Next).run P w)→Post X H S m w out ((do let d ← resolve ρ ⟨.builtin .append,#[s,x],#[t,u]⟩ o.type;invoke d.target d.args:Sem Next).run P w):=by
            intro out hp;simpa [resolve,invoke,builtin] using hp
          refine key ?_;subst c9;obtain ⟨nz,rfl⟩:∃ nz:Nat,z=nz:=⟨z.toNat,(Int.toNat_of_nonneg c3).symm⟩;rw [Int.toNat_natCast] at c7 c8 ⊢;have hu':P.underlying u=some (.int kn):=by
            obtain ⟨_,d,_,_,h1,_,_,_,_,hk⟩:=(hT.1 _ _ hu).ok;simp only [KOK] at hk;subst hk;exact h1
          have hz':∃ i z,P.info? e=some i∧i.zero=some z∧z.cells = #[.int .u8 0]:=by
            obtain ⟨i,d,z,hi,_,_,_,hzz,hcells,_⟩:=(hT.1 _ _ hte).ok;exact ⟨i,z,hi,hzz,by rw [c5] at hcells;exact Array.ext' hcells⟩
          have hcb:∃ bs,b.c = .by_ bs:=by
            cases hc:b.c <;> rw [hc] at c6 <;> first | exact ⟨_,rfl⟩ | cases c6
          obtain ⟨bs,hcb⟩:=hcb;have hN0:cN (.by_ (List.replicate nz (0:UInt8)))=nz:=by simp [cN]
          have:=append_gen_ok hT hM (und_slice (hT.1 _ _ ht)) hte (u:=u) (v:=.int kq (nz:Int)) (c:=.by_ (List.replicate nz 0)) ⟨List.replicate nz (.int .u8 0),by rw [hN0];exact AppS.zeros c4 hu' hz' nz (by omega),fun i hi=>⟨c4.symm,fun j y hy=>by
              rw [hN0] at hi;rw [c4];have hj:j=0:=by
                have:=(List.getElem?_eq_some_iff.1 hy).1;simp only [cAt,cl_bA,List.length_singleton] at this;omega
              subst hj;have e1:(List.replicate nz (0:UInt8)).getD i 0=0:=by
                simp [List.getD,List.getElem?_replicate,hi]
              simp only [cAt,e1,cl_bA,List.getElem?_cons_zero,Option.some.injEq] at hy;subst hy;exact ⟨.int .u8 0,by simp [List.getElem?_replicate,hi],.lit _⟩⟩⟩ hfr hys hb trivial (by rw [hcb];trivial) (.inr c4.symm) (by rw [hN0];exact c7) (by rw [hN0];exact c8) c10 c11 c12 c13 c14 o.type (cnd (g s)∧cnd (g x)∧(0:Int)≤nz∧te.size=1∧te.zero=[.int .u8 0]∧isBy b.c=true∧(n+nz)*te.bytes≤140737488355328∧n+nz≤maxLen ∧
            0=0∧n=cN b.c∧b.mode=0∧b.ln=false∧es=te.size∧zOK te=true)
          rw [hN0] at this;rw [hyx.lit_inv];exact this
        · cases h
      · cases h
    · cases h
  · rename_i t x hop;rw [hop];split at h
    · rename_i q1 n e q3 q4 q5 bs ht hs;injection h with h;subst h;obtain ⟨c1,c2,c3⟩:=hvc;have hy:=(hg x).strip c1;rw [hs] at hy;obtain ⟨A,n',c,e1,hn,hnc,hA⟩:∃ A n' c,ρ x = .slice A n' c∧bs.length=n'∧n'≤c∧Lies w S A n' (fun i=>.int .u8 ((bs.getD i 0).toNat:Int)):=by
        cases hq:ρ x <;> rw [hq] at hy <;> cases hy
        exact ⟨_,_,_,rfl,by assumption,by assumption,by assumption⟩
      rcases hA with hA | ⟨b,off,rfl,hA⟩
      · omega
      refine Post.pure (v:=.pointer (some ⟨b,off+0,none⟩)) hM rfl ?_ (.ep (fun i=>.int .u8 ((bs.getD i 0).toNat:Int)) (fun j hj=>?_) fun j y hy=>?_)
      · have:¬ n'<n:=by omega
        simp [e1,Instr.arrayAt,run_underlying (und_array (hT.1 _ _ ht)),this]
      · have hj':j<n':=by
          have:(AV.agg ((bs.take n).map bA)).cl.length=min n bs.length:=by simp [AV.cl]
          omega
        exact hA j hj'
      · have hy':((bs.take n).map bA)[j]? = some y:=hy;rw [List.getElem?_map,List.getElem?_take] at hy';split at hy'
        · obtain ⟨b',h1,rfl⟩:=Option.map_eq_some_iff.1 hy';simp only [List.getD,h1,Option.getD_some];exact .lit _
        · cases hy'
    · rename_i q1 n e q3 q4 q5 es xs ht hs;injection h with h;subst h;obtain ⟨c1,c2,c3,rfl,c5⟩:=hvc;have hy:=(hg x).strip c1;rw [hs] at hy;obtain ⟨A,n',c,us,hq,hn,hnc,hA,hh⟩:∃ A n' c,∃ us:Nat→Value,ρ x = .slice A n' c∧xs.length=n'∧n'≤c∧Lies w S A (n'*1) us ∧ ∀ (i j:Nat) (x y:AV),xs[i]? = some x→x.cl[j]? = some y→VR w S m y (us (i*1+j)):=by
        cases hq:ρ x <;> rw [hq] at hy <;> cases hy
        exact ⟨_,_,_,_,rfl,by assumption,by assumption,by assumption,by assumption⟩
      rcases hA with hA | ⟨b,off,rfl,hA⟩
      · omega
      refine Post.pure (v:=.pointer (some ⟨b,off+0,none⟩)) hM rfl ?_ (.ep us (fun j hj=>?_) fun j y hy=>?_)
      · have:¬ n'<n:=by omega
        simp [hq,Instr.arrayAt,run_underlying (und_array (hT.1 _ _ ht)),this]
      · have hj':j<n'*1:=by
          have:(AV.agg (xs.take n)).cl.length=min n xs.length:=by simp [AV.cl]
          omega
        exact hA j hj'
      · have hy':(xs.take n)[j]? = some y:=hy;rw [List.getElem?_take] at hy';split at hy'
        · have h1:=hh j 0 y y hy' (by
            have:=c5 y (List.mem_of_getElem? hy');cases y <;> first | rfl | cases this)
          rw [Nat.mul_one,Nat.add_zero] at h1;exact h1
        · cases hy'
    · cases h
  · rename_i f fst caps hop;rw [hop];split at h
    · rename_i hf;injection h with h;subst h;have:caps = #[]:=by simpa using hf
      subst this;obtain ⟨h1,h2⟩:=VR.caps hg hvc;exact Post.pure hM rfl (by simp [Instr.makeFunc]) (.bm h1 h2)
    · cases h
  · cases h
theorem evN_M {ty:Ty} {H:List (Nat × Blk)} {g:Operand→AV} {op:Op} {out:Out} {fr':Nat} (h:evN ty H fr' g op=some out) (H':List (Nat × Blk)) (fr:Nat):evM ty H' fr g op=none:=by
  unfold evN at h;split at h
  · rename_i t x lo hi mx;split at h
    · cases h
    · rename_i hz;cases lo with
      | none =>
        simp only [Option.isNone_none,Bool.and_true] at hz;simp only [evM,if_neg hz]
      | some l=>rfl
  · rfl
  · rename_i args ats;split at h
    · rename_i s x t u ea eat;split at h
      · rename_i h1 h2 h3 h4;simp only [evM,ea,eat,h1,h2,h4];split <;> first | rfl | (rename_i q;cases q) | simp_all
      · cases h
    · cases h
  · rename_i args ats;split at h
    · rename_i s x t u ea eat;split at h
      · rename_i h1 h2 h3 h4;simp [evM,ea,eat,h1,h2,h3,h4,srcA]
      · cases h
    · cases h
  · rfl
  · rfl
  · cases h
end
end Go.TravelAbs
namespace Go.Proofs.YtjjkfpbkmhfckaaGreatDoor.Ch
open Go.RowKit Go.TravelBase
theorem len8_all:∀ j:Fin 256,0≤Lib.len8 (j.val:Int)∧Lib.len8 (j.val:Int)≤8∧j.val<2 ^ (Lib.len8 (j.val:Int)).toNat:=by decide +kernel
theorem len8_at (P:Program) (t:TypeId) (ht:P.underlying t=some .string) (j:Int) (h0:0≤j) (h1:j<256) :
    ∃ L:Nat,L≤8∧j<2 ^ L ∧ ∀ w,(Instr.index t (.string Lib.len8tab) (.int .u8 j)).run P w = .ok (.int .u8 (L:Int)) w:=by
  obtain ⟨n,rfl⟩:=Int.eq_ofNat_of_zero_le h0;obtain ⟨a,b,c⟩:=len8_all ⟨n,by omega⟩;refine ⟨(Lib.len8 (n:Int)).toNat,by simp only at b;omega,by exact_mod_cast c,fun w=>?_⟩;rw [Lib.run_index_len8tab w t .u8 n ht h0 (by omega),Int.toNat_of_nonneg a]
theorem pow_up {k j:Int} {L s:Nat} (h:j<2 ^ L) (hk:k<(j+1)*2 ^ s):k<2 ^ (s+L):=by
  rw [Int.pow_add,Int.mul_comm];have:(j+1)*2 ^ s≤2 ^ L*2 ^ s:=Int.mul_le_mul_of_nonneg_right (by omega) (Int.pow_nonneg (by omega));omega
theorem len64_any (k:Int) (h0:0≤k) (hk:k≤2147483647) (w:World) :
    Calls Tryz.prog 282 #[.int .u64 k] w fun e w'=>(∃ L:Nat,e = .returned (.int .i64 L)∧k<2 ^ L∧L≤32)∧w=w':=by
  by_cases h1:65536≤k
  · by_cases h2:16777216≤k
    · obtain ⟨L,hL,hp,hr⟩:=len8_at Tryz.prog 9 Tryz.underlying9 (k / 65536 / 256) (by omega) (by omega);have HP:=Lib.hid hp;clear hp;go_enter Tryz.func282,Tryz.ntmps282
      go_wp2
      go_ret
      exact ⟨⟨24+L,by go_num,pow_up HP.out (by omega),by omega⟩,rfl⟩
    · obtain ⟨L,hL,hp,hr⟩:=len8_at Tryz.prog 9 Tryz.underlying9 (k / 65536) (by omega) (by omega);have HP:=Lib.hid hp;clear hp;go_enter Tryz.func282,Tryz.ntmps282
      go_wp2
      go_ret
      exact ⟨⟨16+L,by go_num,pow_up HP.out (by omega),by omega⟩,rfl⟩
  · by_cases h2:256≤k
    · obtain ⟨L,hL,hp,hr⟩:=len8_at Tryz.prog 9 Tryz.underlying9 (k / 256) (by omega) (by omega);have HP:=Lib.hid hp;clear hp;go_enter Tryz.func282,Tryz.ntmps282
      go_wp2
      go_ret
      exact ⟨⟨8+L,by go_num,pow_up HP.out (by omega),by omega⟩,rfl⟩
    · obtain ⟨L,hL,hp,hr⟩:=len8_at Tryz.prog 9 Tryz.underlying9 k (by omega) (by omega);have HP:=Lib.hid hp;clear hp;go_enter Tryz.func282,Tryz.ntmps282
      go_wp2
      go_ret
      exact ⟨⟨L,by go_num,HP.out,by omega⟩,rfl⟩
theorem len_any (k:Int) (h0:0≤k) (hk:k≤2147483647) (w:World) :
    Calls Tryz.prog 252 #[.int .u64 k] w fun e w'=>(∃ L:Nat,e = .returned (.int .i64 L)∧k<2 ^ L∧L≤32)∧w=w':=by
  go_enter Tryz.func252,Tryz.ntmps252
  go_wp2_with (go_at_call 282;go_must (refine (len64_any k h0 hk _).mono ?_);rintro e w1 ⟨⟨L,rfl,hp,hL⟩,rfl⟩)
  go_ret
  exact ⟨⟨L,rfl,hp,hL⟩,rfl⟩
end Go.Proofs.YtjjkfpbkmhfckaaGreatDoor.Ch
namespace Go.Proofs.YtjjkfpbkmhfckaaGreatDoor.Ch
open Go.RowKit Go.TravelBase
def pwN (x k:Nat):Nat:=x ^ k % GP
theorem GP_int:(GP:Int)=2147483579:=by decide +kernel
theorem pwN_lt (x k:Nat):(pwN x k:Int)<2147483579:=by
  have:=Nat.mod_lt (x ^ k) P_pos;rw [← GP_int];unfold pwN;omega
theorem pwN_mul (x a b:Nat):((pwN x a:Int)*(pwN x b:Int)) % 2147483579=(pwN x (a+b):Int):=by
  rw [← GP_int];unfold pwN;rw [← Int.natCast_mul,← Int.natCast_emod,pow_mod_mul]
theorem prod_bd {a b:Int} (ha:0≤a) (ha':a<2147483579) (hb:0≤b) (hb':b<2147483579):0≤a*b∧a*b≤4611685722067648324:=by
  refine ⟨Int.mul_nonneg ha hb,?_⟩;have h:a*b≤2147483578*2147483578:=Int.mul_le_mul (by omega) (by omega) hb (by omega);omega
theorem bit_cases (k i:Nat) (hk:(k:Int)≤2147483647) :
    (bits BinOp.and IntKind.i64 ((k:Int) / 2 ^ i) 1=1∧k % 2 ^ (i+1)=k % 2 ^ i+2 ^ i)∨(bits BinOp.and IntKind.i64 ((k:Int) / 2 ^ i) 1=0∧k % 2 ^ (i+1)=k % 2 ^ i):=by
  have e:((k:Int) / 2 ^ i)=((k / 2 ^ i:Nat):Int):=by simp
  have hq:k / 2 ^ i≤k:=Nat.div_le_self _ _;have h1:=and_i64 (k / 2 ^ i) 1 (by omega) (by omega);rw [Nat.and_one_is_mod] at h1;have h2:=Nat.mod_pow_succ (b:=2) (k:=i) (x:=k);rw [e];have e1:((1:Nat):Int)=1:=rfl;rw [e1] at h1;rcases Nat.mod_two_eq_zero_or_one (k / 2 ^ i) with h | h
  · right;rw [h] at h1 h2;exact ⟨by rw [h1];rfl,by rw [h2];omega⟩
  · left;rw [h] at h1 h2;exact ⟨by rw [h1];rfl,by rw [h2];omega⟩
theorem power_any (x k:Nat) (hx:(x:Int)<2147483579) (hk:(k:Int)≤2147483647) (w:World) :
    Calls Tryz.prog 216 #[.int .i64 (x:Int),.int .i64 (k:Int)] w fun e w'=>e = .returned (.int .i64 (pwN x k:Int))∧w=w':=by
  go_enter Tryz.func216,Tryz.ntmps216
  go_wp2_with (go_at_call 252;go_must (refine (len_any _ (by omega) hk _).mono ?_);rintro e w1 ⟨⟨L,rfl,hp,hL⟩,rfl⟩;have HP:=Lib.hid hp;clear hp)
  go_loop [0,5,10] (fun y o i=>∃ n:Nat,n≤L∧i = .int .i64 n∧y = .int .i64 (pwN x (2 ^ n):Int)∧o = .int .i64 (pwN x (k % 2 ^ n):Int)) (fun _ _ i=>L-(intOf i).toNat)
  case atStart =>
    refine ⟨0,Nat.zero_le _,rfl,?_,?_⟩
    · have h:=GP_int;unfold pwN;rw [Nat.pow_zero,Nat.pow_one,Nat.mod_eq_of_lt (by omega)]
    · unfold pwN;rw [Nat.pow_zero,Nat.mod_one,Nat.pow_zero,one_P];rfl
  case round =>
    obtain ⟨n,hn,rfl,rfl,rfl⟩:=hrel;by_cases hlt:n<L
    · have h1:=pwN_lt x (2 ^ n);have h2:=pwN_lt x (k % 2 ^ n);have h3:=prod_bd (Int.natCast_nonneg (pwN x (2 ^ n))) h1 (Int.natCast_nonneg (pwN x (2 ^ n))) h1;have h4:=prod_bd (Int.natCast_nonneg (pwN x (k % 2 ^ n))) h2 (Int.natCast_nonneg (pwN x (2 ^ n))) h1;have S1:Hid ((pwN x (2 ^ n):Int)*(pwN x (2 ^ n):Int) % 2147483579=(pwN x (2 ^ (n+1)):Int)):=by
        show _=_;rw [pwN_mul,Nat.pow_succ,Nat.mul_two]
      have S2:=Lib.hid (pwN_mul x (k % 2 ^ n) (2 ^ n));rcases bit_cases k n hk with ⟨hb,hm⟩ | ⟨hb,hm⟩
      · rw [← hm] at S2;have HM:=Lib.hid hm;clear hm;generalize hy:pwN x (2 ^ n)=y at *;generalize ho:pwN x (k % 2 ^ n)=o at *;clear hy ho;go_wp2_with (fail)
        go_round
        case rel=>exact ⟨n+1,by omega,by go_num,by rw [S1.out],by rw [S2.out]⟩
        case measure=>simp [intOf];omega
      · have HM:=Lib.hid hm;clear hm;generalize hy:pwN x (2 ^ n)=y at *;generalize ho:pwN x (k % 2 ^ n)=o at *;have HO:=Lib.hid ho;clear hy ho;go_wp2_with (fail)
        go_round
        case rel=>exact ⟨n+1,by omega,by go_num,by rw [S1.out],by rw [HM.out,HO.out]⟩
        case measure=>simp [intOf];omega
    · obtain rfl:n=L:=by omega
      have hkn:k % 2 ^ n=k:=by
        have:=HP.out;refine Nat.mod_eq_of_lt ?_;exact_mod_cast this
      rw [hkn];clear hkn;go_wp2_with (fail)
      go_ret
      exact ⟨rfl,rfl⟩
theorem pow_any (x k:Nat) (hx:(x:Int)<2147483579) (hk:(k:Int)≤2147483647) (w:World) :
    Calls Tryz.prog 71 #[.int .i64 (x:Int),.int .i64 (k:Int)] w fun e w'=>e = .returned (.int .i64 (pwN x k:Int))∧w=w':=by
  go_enter Tryz.func71,Tryz.ntmps71
  go_wp2_with (fail)
  go_loop [0,1,5] (fun y m o=>∃ Y M O:Nat,y = .int .i64 Y∧m = .int .i64 M∧o = .int .i64 O∧(Y:Int)<2147483579∧(O:Int)<2147483579∧M≤k∧O*Y ^ M % GP=x ^ k % GP) (fun _ m _=>(intOf m).toNat)
  case atStart=>exact ⟨x,k,1,rfl,rfl,rfl,hx,by omega,Nat.le_refl _,by rw [Nat.one_mul]⟩
  case round =>
    obtain ⟨Y,M,O,rfl,rfl,rfl,hY,hO,hM,hinv⟩:=hrel;have HI:=Lib.hid hinv;clear hinv;have h3:=prod_bd (Int.natCast_nonneg Y) hY (Int.natCast_nonneg Y) hY;have h4:=prod_bd (Int.natCast_nonneg O) hO (Int.natCast_nonneg Y) hY;have e1:Hid ((Y:Int)*Y % 2147483579=((Y*Y % GP:Nat):Int)):=by show _=_;rw [← GP_int];simp
    have e2:Hid ((O:Int)*Y % 2147483579=((O*Y % GP:Nat):Int)):=by show _=_;rw [← GP_int];simp
    have l1:((Y*Y % GP:Nat):Int)<2147483579:=by have:=Nat.mod_lt (Y*Y) P_pos;rw [← GP_int];omega
    have l2:((O*Y % GP:Nat):Int)<2147483579:=by have:=Nat.mod_lt (O*Y) P_pos;rw [← GP_int];omega
    have L1:=Lib.hid l1;have L2:=Lib.hid l2;clear l1 l2;have e3:Hid ((M:Int) / 2=((M / 2:Nat):Int)):=by show _=_;omega
    by_cases hm0:0<M
    · by_cases hb:M % 2=1
      · have hb2:((M:Int) % 2 == 1)=true:=by rw [beq_iff_eq];omega
        have HB:=Lib.hid hb;clear hb;go_wp2_with (fail)
        go_round
        case rel =>
          refine ⟨Y*Y % GP,M / 2,O*Y % GP,by rw [e1.out],by rw [e3.out],by rw [e2.out],L1.out,L2.out,by omega,?_⟩;rw [← HI.out];have hMM:M=1+2*(M / 2):=by have:=HB.out;omega
          conv=>rhs;rw [hMM,Nat.pow_add,Nat.pow_one,Nat.pow_mul,Nat.pow_two,← Nat.mul_assoc,Nat.mul_mod,Nat.pow_mod]
          conv=>lhs;rw [Nat.mul_mod,Nat.mod_mod]
        case measure=>simp [intOf];omega
      · have hb2:((M:Int) % 2 == 1)=false:=by rw [beq_eq_false_iff_ne];omega
        have HB:=Lib.hid hb;clear hb;go_wp2_with (fail)
        go_round
        case rel =>
          refine ⟨Y*Y % GP,M / 2,O,by rw [e1.out],by rw [e3.out],rfl,L1.out,hO,by omega,?_⟩;rw [← HI.out];have hMM:M=2*(M / 2):=by have:=HB.out;omega
          conv=>rhs;rw [hMM,Nat.pow_mul,Nat.pow_two,Nat.mul_mod,Nat.pow_mod]
          conv=>lhs;rw [Nat.mul_mod]
        case measure=>simp [intOf];omega
    · obtain rfl:M=0:=by omega
      go_wp2_with (fail)
      go_ret
      refine ⟨?_,rfl⟩;have h:=HI.out;rw [Nat.pow_zero,Nat.mul_one,Nat.mod_eq_of_lt (by rw [← GP_int] at hO;omega)] at h;rw [h];rfl
end Go.Proofs.YtjjkfpbkmhfckaaGreatDoor.Ch
namespace Go.Proofs.YtjjkfpbkmhfckaaGreatDoor.Ch
open Go.RowKit Go.TravelBase
def resB (x:Int):Bool:=decide (0<x∧x<2147483579)
def secB (k:Int):Bool:=decide (0<k∧k<1073741789)
def pwI (x k:Int):Int:=(pwN x.toNat k.toNat:Int)
def eltB (x:Int):Bool:=resB x && decide (x ≠ 1) && decide (pwI x 1073741789=1)
theorem resB_t {x:Int} (h:resB x=true):0<x∧x<2147483579:=of_decide_eq_true h
theorem resB_f {x:Int} (h:resB x=false):¬ (0<x∧x<2147483579):=of_decide_eq_false h
theorem secB_t {x:Int} (h:secB x=true):0<x∧x<1073741789:=of_decide_eq_true h
theorem secB_f {x:Int} (h:secB x=false):¬ (0<x∧x<1073741789):=of_decide_eq_false h
theorem residue_any (x:Int) (w:World):Calls Tryz.prog 215 #[.int .i64 x] w fun e w'=>e = .returned (.bool (resB x))∧w=w':=by
  cases hb:resB x with
  | true =>
    obtain ⟨h1,h2⟩:=resB_t hb;have h3:1≤x:=by omega
    clear hb;go_enter Tryz.func215,Tryz.ntmps215
    go_wp2_with (fail)
    go_ret
    exact ⟨rfl,rfl⟩
  | false =>
    have h:=resB_f hb;clear hb;by_cases h1:0<x
    · have h2:¬ x<2147483579:=by omega
      have h3:1≤x:=by omega
      clear h;go_enter Tryz.func215,Tryz.ntmps215
      go_wp2_with (fail)
      go_ret
      exact ⟨rfl,rfl⟩
    · have h3:¬ 1≤x:=by omega
      clear h;go_enter Tryz.func215,Tryz.ntmps215
      go_wp2_with (fail)
      go_ret
      exact ⟨rfl,rfl⟩
theorem secret_any (x:Int) (w:World):Calls Tryz.prog 280 #[.int .i64 x] w fun e w'=>e = .returned (.bool (secB x))∧w=w':=by
  cases hb:secB x with
  | true =>
    obtain ⟨h1,h2⟩:=secB_t hb;have h3:1≤x:=by omega
    clear hb;go_enter Tryz.func280,Tryz.ntmps280
    go_wp2_with (fail)
    go_ret
    exact ⟨rfl,rfl⟩
  | false =>
    have h:=secB_f hb;clear hb;by_cases h1:0<x
    · have h2:¬ x<1073741789:=by omega
      have h3:1≤x:=by omega
      clear h;go_enter Tryz.func280,Tryz.ntmps280
      go_wp2_with (fail)
      go_ret
      exact ⟨rfl,rfl⟩
    · have h3:¬ 1≤x:=by omega
      clear h;go_enter Tryz.func280,Tryz.ntmps280
      go_wp2_with (fail)
      go_ret
      exact ⟨rfl,rfl⟩
theorem rsecret_any (x:Int) (w:World):Calls Tryz.prog 70 #[.int .i64 x] w fun e w'=>e = .returned (.bool (secB x))∧w=w':=by
  cases hb:secB x with
  | true =>
    obtain ⟨h1,h2⟩:=secB_t hb;have h3:1≤x:=by omega
    clear hb;go_enter Tryz.func70,Tryz.ntmps70
    go_wp2_with (fail)
    go_ret
    exact ⟨rfl,rfl⟩
  | false =>
    have h:=secB_f hb;clear hb;by_cases h1:0<x
    · have h2:¬ x<1073741789:=by omega
      have h3:1≤x:=by omega
      clear h;go_enter Tryz.func70,Tryz.ntmps70
      go_wp2_with (fail)
      go_ret
      exact ⟨rfl,rfl⟩
    · have h3:¬ 1≤x:=by omega
      clear h;go_enter Tryz.func70,Tryz.ntmps70
      go_wp2_with (fail)
      go_ret
      exact ⟨rfl,rfl⟩
theorem power_i (x k:Int) (hx0:0≤x) (hx:x<2147483579) (hk0:0≤k) (hk:k≤2147483647) (w:World) :
    Calls Tryz.prog 216 #[.int .i64 x,.int .i64 k] w fun e w'=>e = .returned (.int .i64 (pwI x k))∧w=w':=by
  obtain ⟨a,rfl⟩:=Int.eq_ofNat_of_zero_le hx0;obtain ⟨b,rfl⟩:=Int.eq_ofNat_of_zero_le hk0;exact power_any a b hx hk w
theorem pow_i (x k:Int) (hx0:0≤x) (hx:x<2147483579) (hk0:0≤k) (hk:k≤2147483647) (w:World) :
    Calls Tryz.prog 71 #[.int .i64 x,.int .i64 k] w fun e w'=>e = .returned (.int .i64 (pwI x k))∧w=w':=by
  obtain ⟨a,rfl⟩:=Int.eq_ofNat_of_zero_le hx0;obtain ⟨b,rfl⟩:=Int.eq_ofNat_of_zero_le hk0;exact pow_any a b hx hk w
theorem element_any (x:Int) (w:World):Calls Tryz.prog 170 #[.int .i64 x] w fun e w'=>e = .returned (.bool (eltB x))∧w=w':=by
  have R1:=Lib.hid (residue_any x);cases hb:resB x with
  | false =>
    have he:eltB x=false:=by simp [eltB,hb]
    rw [he];rw [hb] at R1;clear he hb;go_enter Tryz.func170,Tryz.ntmps170
    go_wp2_with (go_at_call 215;go_must (refine (R1.out _).mono ?_);rintro e w1 ⟨rfl,rfl⟩)
    go_ret
    exact ⟨rfl,rfl⟩
  | true =>
    obtain ⟨h1,h2⟩:=resB_t hb;rw [hb] at R1;by_cases hx:x=1
    · have he:eltB x=false:=by simp [eltB,hx]
      rw [he];have hx2:(x != 1)=false:=by simp [hx]
      clear he hb hx;go_enter Tryz.func170,Tryz.ntmps170
      go_wp2_with (go_at_call 215;go_must (refine (R1.out _).mono ?_);rintro e w1 ⟨rfl,rfl⟩)
      go_ret
      exact ⟨rfl,rfl⟩
    · have he:eltB x=(pwI x 1073741789 == 1):=by rw [Bool.eq_iff_iff];simp [eltB,hb,hx]
      rw [he];have hx2:(x != 1)=true:=by simp [hx]
      have PW:=Lib.hid (power_i x 1073741789 (by omega) h2 (by omega) (by omega));generalize pwI x 1073741789=y at *;clear he hb hx;go_enter Tryz.func170,Tryz.ntmps170
      go_wp2_with (first | (go_at_call 215;go_must (refine (R1.out _).mono ?_);rintro e w1 ⟨rfl,rfl⟩) | (go_at_call 216;go_must (refine (PW.out _).mono ?_);rintro e w1 ⟨rfl,rfl⟩))
      go_ret
      exact ⟨rfl,rfl⟩
end Go.Proofs.YtjjkfpbkmhfckaaGreatDoor.Ch
namespace Go.Proofs.YtjjkfpbkmhfckaaGreatDoor.Ch
open Go.RowKit Go.TravelBase
def pubV (k:Int):Int:=if secB k then pwI 4 k else 0
def pubE (k:Int):Int:=if secB k then 0 else 3
theorem eltB_res {x:Int} (h:eltB x=true):resB x=true:=by
  simp only [eltB,Bool.and_eq_true] at h;exact h.1.1
theorem public_any (x:Int) (w:World):Calls Tryz.prog 248 #[.int .i64 x] w fun e w'=>e = .returned (.tuple #[.int .i64 (pubV x),.int .i64 (pubE x)])∧w=w':=by
  have R1:=Lib.hid (secret_any x);cases ha:secB x with
  | false =>
    have e1:pubV x=0:=by simp [pubV,ha]
    have e2:pubE x=3:=by simp [pubE,ha]
    rw [e1,e2];rw [ha] at R1;clear e1 e2 ha;go_enter Tryz.func248,Tryz.ntmps248
    go_wp2_with (go_at_call 280;go_must (refine (R1.out _).mono ?_);rintro e w1 ⟨rfl,rfl⟩)
    go_ret2
    exact ⟨rfl,rfl⟩
  | true =>
    obtain ⟨h1,h2⟩:=secB_t ha;have e1:pubV x=pwI 4 x:=by simp [pubV,ha]
    have e2:pubE x=0:=by simp [pubE,ha]
    rw [e1,e2];have PW:=Lib.hid (power_i 4 x (by omega) (by omega) (by omega) (by omega));rw [ha] at R1;clear e1 e2 ha;go_enter Tryz.func248,Tryz.ntmps248
    go_wp2_with (first | (go_at_call 280;go_must (refine (R1.out _).mono ?_);rintro e w1 ⟨rfl,rfl⟩) | (go_at_call 216;go_must (refine (PW.out _).mono ?_);rintro e w1 ⟨rfl,rfl⟩))
    go_ret2
    exact ⟨rfl,rfl⟩
theorem rpublic_any (x:Int) (w:World):Calls Tryz.prog 41 #[.int .i64 x] w fun e w'=>e = .returned (.tuple #[.int .i64 (pubV x),.int .i64 (pubE x)])∧w=w':=by
  have R1:=Lib.hid (rsecret_any x);cases ha:secB x with
  | false =>
    have e1:pubV x=0:=by simp [pubV,ha]
    have e2:pubE x=3:=by simp [pubE,ha]
    rw [e1,e2];rw [ha] at R1;clear e1 e2 ha;go_enter Tryz.func41,Tryz.ntmps41
    go_wp2_with (go_at_call 70;go_must (refine (R1.out _).mono ?_);rintro e w1 ⟨rfl,rfl⟩)
    go_ret2
    exact ⟨rfl,rfl⟩
  | true =>
    obtain ⟨h1,h2⟩:=secB_t ha;have e1:pubV x=pwI 4 x:=by simp [pubV,ha]
    have e2:pubE x=0:=by simp [pubE,ha]
    rw [e1,e2];have PW:=Lib.hid (pow_i 4 x (by omega) (by omega) (by omega) (by omega));rw [ha] at R1;clear e1 e2 ha;go_enter Tryz.func41,Tryz.ntmps41
    go_wp2_with (first | (go_at_call 70;go_must (refine (R1.out _).mono ?_);rintro e w1 ⟨rfl,rfl⟩) | (go_at_call 71;go_must (refine (PW.out _).mono ?_);rintro e w1 ⟨rfl,rfl⟩))
    go_ret2
    exact ⟨rfl,rfl⟩
end Go.Proofs.YtjjkfpbkmhfckaaGreatDoor.Ch
namespace Go.Proofs.YtjjkfpbkmhfckaaGreatDoor.Ch
open Go.RowKit Go.TravelBase
theorem eltB_iff (x:Nat):eltB (x:Int)=true ↔ Elt x:=by
  have hP:=GP_int;have hQ:((1073741789:Int)).toNat=GQ:=by decide +kernel
  unfold eltB resB Elt pwI pwN;rw [hQ,Int.toNat_natCast];simp only [Bool.and_eq_true,decide_eq_true_eq];generalize x ^ GQ % GP=t;rw [← hP];constructor
  · rintro ⟨⟨⟨h1,h2⟩,h3⟩,h4⟩;exact ⟨by omega,by omega,by omega,by omega⟩
  · rintro ⟨h1,h2,h3,h4⟩;exact ⟨⟨⟨by omega,by omega⟩,by omega⟩,by omega⟩
theorem elt_pw4 {m:Nat} (hm:¬ GQ ∣ m):eltB (pwN 4 m:Int)=true:=(eltB_iff _).2 (elt_four hm)
def encL (x:Int):List UInt8:=if eltB x then beS x.toNat 4 else []
def encE (x:Int):Int:=if eltB x then 0 else 10
theorem oct4 (x:Int) (h:resB x=true):octL x 4=beS x.toNat 4∧octE x 4=0:=by
  obtain ⟨h1,h2⟩:=resB_t h;have hp:p256 4=4294967296:=by decide +kernel
  have e:octE x 4=0:=by
    unfold octE;rw [if_neg (by omega),if_neg];have:(4:Int).toNat=4:=rfl;rw [this,hp];omega
  exact ⟨by unfold octL;rw [if_pos e];rfl,e⟩
def decV (bs:List UInt8):Int:=if bs.length=4 then (if eltB (numV bs) then numV bs else 0) else 0
def decE (bs:List UInt8):Int:=if bs.length=4 then (if eltB (numV bs) then 0 else 10) else 2
theorem encode_any (x:Int) (w:World):Calls Tryz.prog 126 #[.int .i64 x] w (RetSE 5 (encL x).length (bvs (encL x)) (encE x) w):=by
  have EL:=Lib.hid (element_any x);cases hb:eltB x with
  | false =>
    have e1:encL x=[]:=by simp [encL,hb]
    have e2:encE x=10:=by simp [encE,hb]
    rw [e1,e2];rw [hb] at EL;clear e1 e2 hb;go_enter Tryz.func126,Tryz.ntmps126
    go_wp2_with (go_at_call 170;go_must (refine (EL.out _).mono ?_);rintro e w1 ⟨rfl,rfl⟩)
    go_ret2
    exact RetSE.nil_ _ _ _
  | true =>
    obtain ⟨o1,o2⟩:=oct4 x (eltB_res hb);obtain ⟨b1,b2⟩:=resB_t (eltB_res hb);have e1:encL x=beS x.toNat 4:=by simp [encL,hb]
    have e2:encE x=0:=by simp [encE,hb]
    have OC:Hid (∀ w,Calls Tryz.prog 36 #[.int .i64 x,.int .i64 4] w (RetSE 5 (beS x.toNat 4).length (bvs (beS x.toNat 4)) 0 w)):=by
      intro w;have h:=octets_any x 4 w (by omega) (by omega);rwa [o1,o2] at h
    rw [e1,e2];rw [hb] at EL;clear e1 e2 hb o1 o2;generalize beS x.toNat 4=l at *;go_enter Tryz.func126,Tryz.ntmps126
    go_wp2_with (first | (go_at_call 170;go_must (refine (EL.out _).mono ?_);rintro e w1 ⟨rfl,rfl⟩) | (go_at_call 36;go_must (refine (OC.out _).mono ?_);rintro e w1 ⟨A1,c1,rfl,hap,hb⟩))
    go_ret2
    exact ⟨A1,c1,rfl,hap,hb⟩
theorem decode_prep (bs:List UInt8) (h:bs.length=4):numE bs=0:=by unfold numE;rw [if_neg (by omega)]
theorem decode_any (A:Option Addr) (n c:Nat) (bs:List UInt8) (w:World) (h:Rd w A n c (bvs bs)) :
    Calls Tryz.prog 144 #[.slice A n c] w fun e w'=>e = .returned (.tuple #[.int .i64 (decV bs),.int .i64 (decE bs)])∧w=w':=by
  have hl:=h.len;rw [length_bvs] at hl;have NU:=Lib.hid (number_any A n c bs w h);have EL:=Lib.hid (element_any (numV bs));by_cases h4:n=4
  · have g:((n:Int) != 4)=false:=by rw [bne_eq_false_iff_eq];omega
    rw [decode_prep bs (by omega)] at NU;cases hb:eltB (numV bs) with
    | false =>
      have e1:decV bs=0:=by simp [decV,hb]
      have e2:decE bs=10:=by simp [decE,hb,hl,h4]
      rw [e1,e2];rw [hb] at EL;generalize numV bs=v at *;clear e1 e2 hb h4 hl h;go_enter Tryz.func144,Tryz.ntmps144
      go_wp2_with (first | (go_at_call 101;go_must (refine NU.out.mono ?_);rintro e w1 ⟨rfl,rfl⟩) | (go_at_call 170;go_must (refine (EL.out _).mono ?_);rintro e w1 ⟨rfl,rfl⟩))
      go_ret2
      exact ⟨rfl,rfl⟩
    | true =>
      have e1:decV bs=numV bs:=by simp [decV,hb,hl,h4]
      have e2:decE bs=0:=by simp [decE,hb,hl,h4]
      rw [e1,e2];rw [hb] at EL;generalize numV bs=v at *;clear e1 e2 hb h4 hl h;go_enter Tryz.func144,Tryz.ntmps144
      go_wp2_with (first | (go_at_call 101;go_must (refine NU.out.mono ?_);rintro e w1 ⟨rfl,rfl⟩) | (go_at_call 170;go_must (refine (EL.out _).mono ?_);rintro e w1 ⟨rfl,rfl⟩))
      go_ret2
      exact ⟨rfl,rfl⟩
  · have g:((n:Int) != 4)=true:=by rw [bne_iff_ne];omega
    have e1:decV bs=0:=by simp [decV,hl,h4]
    have e2:decE bs=2:=by simp [decE,hl,h4]
    rw [e1,e2];clear e1 e2 h4 hl h;go_enter Tryz.func144,Tryz.ntmps144
    go_wp2_with (fail)
    go_ret2
    exact ⟨rfl,rfl⟩
end Go.Proofs.YtjjkfpbkmhfckaaGreatDoor.Ch
