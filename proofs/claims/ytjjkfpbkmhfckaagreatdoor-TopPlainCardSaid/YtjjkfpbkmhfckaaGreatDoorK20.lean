import Derived.Test.YtjjkfpbkmhfckaaGreatDoorK19
import Derived.Test.YtjjkfpbkmhfckaaGreatDoorK08
set_option linter.unusedVariables false
set_option linter.unusedSimpArgs false
set_option maxHeartbeats 1000000
set_option maxRecDepth 10000
namespace Go.Proofs.YtjjkfpbkmhfckaaGreatDoor
open Go.RowKit Go.TravelBase Go.TravelAbs
section
attribute [local irreducible] Tab encR expK xorB enc1 dec1 cphA
def opF (key:List UInt8) (s:List UInt8 × List UInt8) (x:List UInt8):List UInt8 × List UInt8:=(x,s.2++xorB (dec1 key x) s.1)
def opR (key iv:List UInt8) (l:List (List UInt8)):List UInt8 × List UInt8:=l.foldl (opF key) (iv,[])
theorem opR_succ (key iv:List UInt8) (l:List (List UInt8)) (x:List UInt8):opR key iv (l++[x])=opF key (opR key iv l) x:=by
  unfold opR;rw [List.foldl_append];rfl
theorem opR_len2 (key iv:List UInt8) (l:List (List UInt8)):(opR key iv l).2.length=16*l.length:=by
  suffices h:∀ (l:List (List UInt8)) (s:List UInt8 × List UInt8) (n:Nat),s.2.length=16*n→(l.foldl (opF key) s).2.length=16*(n+l.length) by
    have:=h l (iv,[]) 0 rfl;rw [Nat.zero_add] at this;exact this
  intro l;induction l with
  | nil=>exact fun s n h=>h
  | cons x r ih =>
    intro s n h;have:=ih (opF key s x) (n+1) (by show (s.2++xorB (dec1 key x) s.1).length=_;rw [List.length_append,xorB_len,dec1_len,h];omega);rw [List.length_cons,show n+(r.length+1)=n+1+r.length by omega];exact this
theorem opR_len1 (key iv:List UInt8) (hiv:iv.length=16) (l:List (List UInt8)) (hl:∀ y∈l,y.length=16):(opR key iv l).1.length=16:=by
  suffices h:∀ (l:List (List UInt8)) (s:List UInt8 × List UInt8),s.1.length=16→(∀ y∈l,y.length=16)→(l.foldl (opF key) s).1.length=16 from h l (iv,[]) hiv hl
  intro l;induction l with
  | nil=>exact fun s h _=>h
  | cons x r ih=>exact fun s h hr=>ih (opF key s x) (hr x (by simp)) fun y hy=>hr y (by simp [hy])
def openB (key iv d:List UInt8):List UInt8:=(opR key iv (pieces 16 d (d.length / 16))).2
theorem openB_len (key iv d:List UInt8) (h:d.length % 16=0):(openB key iv d).length=d.length:=by
  unfold openB;rw [opR_len2,pieces,List.length_map,List.length_range];omega
theorem slR_len2 (key iv:List UInt8) (l:List (List UInt8)):(slR key iv l).2.length=16*l.length:=by
  suffices h:∀ (l:List (List UInt8)) (s:List UInt8 × List UInt8) (n:Nat),s.2.length=16*n→(l.foldl (slF key) s).2.length=16*(n+l.length) by
    have:=h l (iv,[]) 0 rfl;rw [Nat.zero_add] at this;exact this
  intro l;induction l with
  | nil=>exact fun s n h=>h
  | cons x r ih =>
    intro s n h;have:=ih (slF key s x) (n+1) (by show (s.2++enc1 key (xorB x s.1)).length=_;rw [List.length_append,enc1_len,h];omega);rw [List.length_cons,show n+(r.length+1)=n+1+r.length by omega];exact this
theorem sealB_len (key iv d:List UInt8) (h:d.length % 16=0):(sealB key iv d).length=d.length:=by
  unfold sealB;rw [slR_len2,pieces,List.length_map,List.length_range];omega
def openH (key iv:List UInt8) (pre:List (List UInt8)):List (Nat × Blk) :=
  [(0,⟨.li 1 [.by_ (opR key iv pre).1],0,false⟩),(1,⟨.li 1 [.ep (cphA key) 0],0,false⟩),(2,⟨.li 1 [.sl 3000 1 0 (16*pre.length)],0,false⟩),(3000,⟨.by_ (opR key iv pre).2,0,false⟩)]
theorem open_s (key iv d:List UInt8) (h1:key.length=16) (h2:iv.length=16) (h3:d.length % 16=0) (h4:d.length≤1000000000):FnS Tryz.prog 99 [.by_ key,.by_ iv,.by_ d] [] (.tup [.fr (.by_ (openB key iv d)),.lit (.int .i64 0)]) []:=by
  have hs:=sgMd_ok key;have hT:=Tr_cph key 0;refine FnS.ofX Tryz.func99 rfl (N:=33) rfl (by simp) (by simp) fun X hX hE=>?_;simp only [tmArgs,lentH,Nat.reduceAdd];refine up 2 ?_;refine rK hs fun K hK=>?_;simp only [go_sem,sgMd,h1,h2,h3]
  refine eK ?_;refine up 1 ?_;refine WA.cond rfl (fun h=>absurd h (by simp)) (fun h=>?_);refine up 1 ?_
  refine rK hs fun K hK=>?_;simp only [go_sem,sgMd,h1,hT]
  refine eK ?_;refine up 2 ?_;have hC:=eq_true (Tr_chk d (.lit (.int .i64 16)) (Tr.lit _) rfl 133);refine rK hs fun K hK=>?_;simp only [go_sem,sgMd,hT,hC]
  refine eK ?_;refine ownC 2112 1 0 (.lit (.slice none 0 0)) (.by_ []) rfl rfl rfl (x':=.sl 2136 1 0 0) rfl ?_;have hk:d.length=d.length / 16*16:=by omega
  refine WA.chunk hX hE (n:=16) (k:=d.length / 16) (bs:=d) (sz:=33) 3 (fun k=>if k=0 then 2000 else if k=1 then 2096 else if k=2 then 2112 else if k=3000 then 2136 else k) (sealT d) (openH key iv) 4000 (by decide) hk (by omega) rfl rfl ⟨rfl,rfl,rfl⟩ (by decide) ?wk ?tm ?bx ?ln ?kl ?body ?rest
  case wk =>
    have e1:(opR key iv []).1=iv:=rfl;have e2:(opR key iv []).2=[]:=rfl;simp only [openH,sealT,e1,e2,go_sem,hC,List.length_nil,Nat.mul_zero];exact .inr (of_eq_true hT)
  case tm=>exact ⟨.inl ⟨0,0,0,rfl,by decide⟩,.inl ⟨1,0,0,rfl,by decide⟩,.inl ⟨2,0,0,rfl,by decide⟩,.inr (of_eq_true hC),trivial⟩
  case bx =>
    intro q hq;rcases (show q=0∨q=1∨q=2 by omega) with rfl | rfl | rfl
    · exact ⟨_,rfl,Nat.zero_le _,Nat.zero_lt_one⟩
    · exact ⟨_,rfl,Nat.zero_le _,Nat.zero_lt_one⟩
    · exact ⟨_,rfl,Nat.zero_le _,Nat.zero_lt_one⟩
  case ln=>exact fun pre=>lk_ln rfl
  case kl=>exact fun pre=>lk_hi rfl
  case body =>
    intro l X' hX pre x hx hlen hpre;have e0:=opR_succ key iv pre x;have l1:=opR_len1 key iv h2 pre hpre;have l2:=opR_len2 key iv pre;have ld:=dec1_len key x;have hlx:(dec1 key x).length≤(opR key iv pre).1.length:=by omega
    have hlx2:(dec1 key x).length≤1000000000:=by omega
    have lx:(xorB (dec1 key x) (opR key iv pre).1).length=16:=by rw [xorB_len,ld]
    refine WR.block ?_;simp only [openH,sealT];have hbd:16*pre.length+16≤1000000000:=by omega
    have l3:16≤(opR key iv pre).1.length:=by omega
    have htk:List.take 16 (xorB (dec1 key x) (opR key iv pre).1)=xorB (dec1 key x) (opR key iv pre).1:=List.take_of_length_le (by omega);refine WR.drawnK mixed_ ty_ok hs (tbl:=[[],[],[],[1,2],[],[1,2,3,4],[0,1,2,3,4,5],[0,1,2,3,4,5,6]]) (nb:=[0,1,3,4,5,6,7]) (hk:=[[],[],[],[],[],[],[],[]]) RQ.outB rfl (by kernel_rfl) fun K hK=>?_;simp only [go_sem,sgMd,hT,hx,ld,hlx,hlx2,lx,h1,l2,htk]
    refine eK ?_;refine WR.regionE ty_ok hs RQ.outB rfl fun K hK=>?_;simp only [go_sem,true_and]
    (repeat refine sdA ?_);refine hK _ (RQ.b (RQ.mk hX (fun k=>if k=3000 then 4048 else k) 4000 (by simp only [go_sem,Int.natCast_add,e0,opF,openH,List.length_append,List.length_singleton,hT,or_true] <;> (try and_intros) <;> (try omega))))
  case rest =>
    intro X' hX;have l2:=opR_len2 key iv (pieces 16 d (d.length / 16));simp only [openH,sealT];refine up 1 ?_;refine rE [.fr (.by_ (openB key iv d)),.lit (.int .i64 0)] [] [.tmp 6,.tmp 7] ?_;simp only [go_sem,sbT,openB,l2];all_goals exact agA
theorem piece_cons {n:Nat} {x r:List UInt8} (hx:x.length=n) (i:Nat):piece n (x++r) (i+1)=piece n r i:=by
  unfold piece;rw [Nat.add_mul,Nat.one_mul,Nat.add_comm (i*n) n,← hx,List.drop_length_add_append]
theorem piece_zero {n:Nat} {x r:List UInt8} (hx:x.length=n):piece n (x++r) 0=x:=by
  unfold piece;rw [Nat.zero_mul,List.drop_zero,← hx,List.take_left]
theorem pieces_cons {n:Nat} {x r:List UInt8} (hx:x.length=n) (k:Nat):pieces n (x++r) (k+1)=x::pieces n r k:=by
  unfold pieces;rw [List.range_succ_eq_map,List.map_cons,List.map_map,piece_zero hx];congr 1
  exact List.map_congr_left fun i _=>piece_cons hx i
theorem pieces_flat {n:Nat}:∀ {l:List (List UInt8)},(∀ x∈l,x.length=n)→pieces n l.flatten l.length=l
  | [],_=>rfl
  | x::r,h=>by
    rw [List.flatten_cons,List.length_cons,pieces_cons (h x (by simp)),pieces_flat fun y hy=>h y (by simp [hy])]
theorem flatP_pieces {n:Nat}:∀ (k:Nat) {d:List UInt8},d.length=k*n→(pieces n d k).flatten=d
  | 0,d,h=>by
    rw [Nat.zero_mul] at h;rw [List.eq_nil_of_length_eq_zero h];rfl
  | k+1,d,h=>by
    have h1:(d.take n).length=n:=by
      rw [List.length_take,h,Nat.add_mul];omega
    have h2:(d.drop n).length=k*n:=by
      rw [List.length_drop,h,Nat.add_mul];omega
    have:=pieces_cons h1 (r:=d.drop n) k;rw [List.take_append_drop] at this;rw [this,List.flatten_cons,flatP_pieces k h2,List.take_append_drop]
def cbl (key:List UInt8):List UInt8→List (List UInt8)→List (List UInt8)
  | _,[]=>[]
  | iv,x::r=>enc1 key (xorB x iv)::cbl key (enc1 key (xorB x iv)) r
theorem cbl_len (key:List UInt8):∀ (l:List (List UInt8)) (iv:List UInt8),(cbl key iv l).length=l.length
  | [],_=>rfl
  | x::r,iv=>by rw [cbl,List.length_cons,List.length_cons,cbl_len key r]
theorem cbl_16 (key:List UInt8):∀ (l:List (List UInt8)) (iv:List UInt8),∀ y∈cbl key iv l,y.length=16
  | [],_,y,hy=>by cases hy
  | x::r,iv,y,hy=>by
    rw [cbl] at hy;rcases List.mem_cons.1 hy with rfl | hy
    · exact enc1_len _ _
    · exact cbl_16 key r _ y hy
theorem sl_cbl (key:List UInt8):∀ (l:List (List UInt8)) (iv out:List UInt8),(l.foldl (slF key) (iv,out)).2=out++(cbl key iv l).flatten
  | [],iv,out=>by simp [cbl]
  | x::r,iv,out=>by
    rw [List.foldl_cons,slF,sl_cbl key r,cbl,List.flatten_cons,List.append_assoc]
theorem op_cbl (key:List UInt8):∀ (l:List (List UInt8)) (iv out:List UInt8),(∀ x∈l,x.length=16)→((cbl key iv l).foldl (opF key) (iv,out)).2=out++l.flatten
  | [],iv,out,_=>by simp [cbl]
  | x::r,iv,out,h=>by
    have hx:(xorB x iv).length=16:=by rw [xorB_len];exact h x (by simp)
    rw [cbl,List.foldl_cons,opF,op_cbl key r _ _ fun y hy=>h y (by simp [hy]),dec_enc1 _ _ hx,xorB_two,List.flatten_cons,List.append_assoc]
theorem open_seal (key iv d:List UInt8) (h:d.length % 16=0):openB key iv (sealB key iv d)=d:=by
  have hk:d.length=d.length / 16*16:=by omega
  have e1:sealB key iv d=(cbl key iv (pieces 16 d (d.length / 16))).flatten:=by
    have:=sl_cbl key (pieces 16 d (d.length / 16)) iv [];rw [List.nil_append] at this;exact this
  have e2:(cbl key iv (pieces 16 d (d.length / 16))).length=d.length / 16:=by rw [cbl_len,pieces,List.length_map,List.length_range]
  have e3:∀ x∈pieces 16 d (d.length / 16),x.length=16:=fun x hx=>by
    obtain ⟨i,hi,rfl⟩:=List.mem_map.1 hx;exact piece_len hk (List.mem_range.1 hi)
  have e4:=sealB_len key iv d h;have e5:=pieces_flat (cbl_16 key (pieces 16 d (d.length / 16)) iv);unfold openB;rw [e4,e1];rw [e2] at e5;rw [e5];have:=op_cbl key (pieces 16 d (d.length / 16)) iv [] e3;rw [List.nil_append,flatP_pieces _ hk] at this;exact this
end
section
attribute [local irreducible] Tab encR expK xorB enc1 dec1 cphA sealB dbM padB
def sgN1:Sg:=fun f args ls =>
  match f,args,ls with
  | 46,[.by_ bs],[]=>some (.fr (.by_ bs),[],bs.length≤140737488355328)
  | 113,[.by_ a,.by_ b],[]=>some (.fr (.by_ (xorB a b)),[],a.length≤b.length∧a.length≤1000000000)
  | 113,[.sl 0 1 i n,.by_ b],[.by_ x]=>some (.fr (.by_ (xorB ((x.drop i).take n) b)),[.by_ x],i+n≤x.length∧n≤b.length∧n≤1000000000)
  | 182,[.by_ a],[]=>some (.fr (.by_ (dbM a)),[],a.length=16)
  | 66,[.by_ a],[]=>some (.fr (.by_ (padB a)),[],a.length≤1000000000)
  | 114,[.by_ key,.by_ b],[]=>some (.tup [.by_ (enc1 key b),.lit (.int .i64 0)],[],key.length=16∧b.length=16)
  | 64,[.by_ key,.by_ iv,.by_ d],[]=>some (.tup [.fr (.by_ (sealB key iv d)),.lit (.int .i64 0)],[],key.length=16∧iv.length=16∧d.length % 16=0∧d.length≤1000000000)
  | _,_,_=>none
theorem sgN1_ok:SgOK Tryz.prog sgN1:=by
  intro f args ls r ls' vc h hvc;unfold sgN1 at h;split at h <;> cases h
  · exact ⟨(fnOK Tryz.func46 (by decide) rfl),sclone_s _ hvc⟩
  · exact ⟨(fnOK Tryz.func113 (by decide) rfl),combineM_s _ _ hvc.1 hvc.2⟩
  · refine ⟨(fnOK Tryz.func113 (by decide) rfl),FnS.lend hvc.1 (combineM_s _ _ ?_ ?_) ?_⟩
    · rw [List.length_take];omega
    · rw [List.length_take];omega
    · intro y hy;rw [List.mem_singleton] at hy;subst hy;exact Tr.by_ _
  · exact ⟨(fnOK Tryz.func182 (by decide) rfl),double_s _ hvc⟩
  · exact ⟨(fnOK Tryz.func66 (by decide) rfl),pad_s _ hvc⟩
  · exact ⟨(fnOK Tryz.func114 (by decide) rfl),aesE_s _ _ hvc.1 hvc.2⟩
  · exact ⟨(fnOK Tryz.func64 (by decide) rfl),seal_s _ _ _ hvc.1 hvc.2.1 hvc.2.2.1 hvc.2.2.2⟩
theorem padB_len (d:List UInt8):(padB d).length % 16=0∧16≤(padB d).length∧(padB d).length≤d.length+17:=by
  unfold padB;simp only [List.length_append,List.length_cons,List.length_nil,List.length_replicate];omega
def lastX (k x:List UInt8):List UInt8:=x.take (x.length-16)++xorB (x.drop (x.length-16)) k
def codeK (key b:List UInt8):List UInt8 × List UInt8 :=
  if b.length=0∨b.length % 16 ≠ 0 then (dbM (dbM (enc1 key (List.replicate 16 0))),padB b) else (dbM (enc1 key (List.replicate 16 0)),b)
def codeB (key b:List UInt8):List UInt8 :=
  (sealB key (List.replicate 16 0) (lastX (codeK key b).1 (codeK key b).2)).drop ((codeK key b).2.length-16)
theorem code_s (key b:List UInt8) (h1:key.length=16) (h2:b.length≤900000000):FnS Tryz.prog 139 [.by_ key,.by_ b] [] (.tup [.fr (.by_ (codeB key b)),.lit (.int .i64 0)]) []:=by
  have hs:=sgN1_ok;have hb:b.length≤1000000000:=by omega
  have hc:b.length≤140737488355328:=by omega
  have hz:(List.replicate 16 (0:UInt8)).length=16:=rfl;refine fo Tryz.func139 62 fun X hX=>?_;refine up 2 ?_;refine rK hs fun K hK=>?_;simp only [go_sem,sgN1,h1,hz]
  refine eK ?_;refine up 2 ?_;refine WA.cond rfl (fun h=>absurd h (by simp)) (fun h=>?_);refine up 1 ?_
  have tz:List.take 16 (List.replicate 16 (0:UInt8))=List.replicate 16 0:=rfl;obtain ⟨Z,hZ⟩:∃ Z:List UInt8,List.replicate 16 0=Z:=⟨_,rfl⟩;rw [hZ] at tz;simp only [hZ,tz];have e0:=enc1_len key Z;refine rK hs fun K hK=>?_;simp only [go_sem,sgN1,e0]
  refine eK ?_;have d0:=dbM_len (enc1 key Z);simp only [d0];refine rK hs fun K hK=>?_;simp only [go_sem,sgN1,hc]
  refine eK ?_;have q0:((b.length:Nat):Int).tmod 16=((b.length % 16:Nat):Int):=rfl;have hkk:codeK key b=if b.length=0∨b.length % 16 ≠ 0 then (dbM (dbM (enc1 key Z)),padB b) else (dbM (enc1 key Z),b):=by rw [← hZ];rfl
  have tk1:List.take 16 (dbM (enc1 key Z))=dbM (enc1 key Z):=List.take_of_length_le (by omega);have d1:=dbM_len (dbM (enc1 key Z));refine WA.join (fun (i:List UInt8 × List UInt8)=>⟨[(0,.by_ key),(6,.sl 3000 1 0 16),(7,.sl 3001 1 0 16),(9,.sl 900002 1 0 i.2.length)],[(3000,⟨.by_ Z,1,false⟩),(3001,⟨.by_ i.1,0,false⟩),(900002,⟨.by_ i.2,0,false⟩)],910000,62⟩) (fun i=>i=codeK key b) ?_ ?_
  ·
    refine rK hs fun K hK=>?_;simp only [go_sem,q0]
    refine eK ?_;refine WA.cond rfl (fun h=>?_) (fun h=>?_)
    ·
      have hq:b.length=0∨b.length % 16 ≠ 0:=by
        by_cases hb0:b.length=0
        · exact .inl hb0
        · refine .inr fun e=>?_;rw [e] at h;simp [hb0] at h
      rw [if_pos hq] at hkk;refine WA.regionE ty_ok hs fun K hK=>?_;simp only [go_sem,sgN1,d0,d1,tk1,hb]
      (repeat refine sdA ?_);refine hK _ (WN.mk ?_);repeat with_reducible refine WN.b ?_
      refine WN.join hX (fun k=>if k=3000 then 2016 else if k=3001 then 2240 else if k=900002 then 2256 else k) ((dbM (dbM (enc1 key Z)),padB b)) (hkk.symm) (by simp only [go_sem,Int.natCast_add,d1] <;> (try and_intros) <;> (try omega))
    ·
      have hq:¬ (b.length=0∨b.length % 16 ≠ 0):=by
        rintro (h3 | h3)
        · simp [h3] at h
        · by_cases hb0:b.length=0
          · simp [hb0] at h
          · simp [hb0] at h;omega
      rw [if_neg hq] at hkk;refine WA.skipN ?_;repeat with_reducible refine WN.b ?_
      refine WN.join hX (fun k=>if k=3000 then 2016 else if k=3001 then 2120 else if k=900002 then 2144 else k) ((dbM (enc1 key Z),b)) (hkk.symm) (by simp only [go_sem,Int.natCast_add,d0] <;> (try and_intros) <;> (try omega))
  rintro i hi;have hL:i.1.length=16∧i.2.length % 16=0∧16≤i.2.length∧i.2.length≤1000000000:=by
    rw [hi,hkk];obtain ⟨p1,p2,p3⟩:=padB_len b;split
    · exact ⟨d1,p1,p2,Nat.le_trans p3 (by omega)⟩
    · rename_i hq;refine ⟨d0,?_,?_,hb⟩
      · show b.length % 16=0;omega
      · show 16≤b.length;omega
  obtain ⟨k0,x⟩:=i;simp only at hL
  obtain ⟨l1,l2,l3,l4⟩:=hL;have ln:((x.length:Nat):Int)-16=((x.length-16:Nat):Int):=by omega
  have m1:x.length-(x.length-16)=16:=by omega
  have m2:x.length-16+16=x.length:=by omega
  have m3:x.length-16≤x.length:=Nat.sub_le _ _;have m4:List.take 16 (List.drop (x.length-16) x)=List.drop (x.length-16) x:=List.take_of_length_le (by rw [List.length_drop];omega);have m5:(List.drop (x.length-16) x).length=16:=by rw [List.length_drop];omega
  have m6:List.take 16 k0=k0:=List.take_of_length_le (by omega);have m7:(xorB (List.drop (x.length-16) x) k0).length=16:=by rw [xorB_len,m5]
  have m8:List.take 16 (xorB (List.drop (x.length-16) x) k0)=xorB (List.drop (x.length-16) x) k0:=List.take_of_length_le (by omega);refine rK hs fun K hK=>?_;simp only [go_sem,ln,l3,l4]
  refine eK ?_;refine WA.drawnK mixed_ ty_ok hs (tbl:=[[],[],[0,1],[],[],[3,4],[],[3,4,5,6],[0,1,2,3,4,5,6,7]]) (nb:=[7,8]) (by kernel_rfl) fun K hK=>?_;simp only [go_sem,sgN1,l1,l3,l4,m1,m2,m3,m4,m5,m6,m7,m8,List.drop_length]
  refine eK ?_;have ey:List.take (x.length-16) x++xorB (List.drop (x.length-16) x) k0=lastX k0 x:=rfl;have hy:(lastX k0 x).length=x.length:=by
    rw [← ey,List.length_append,List.length_take,m7];omega
  simp only [ey];refine WA.wk hX (fun k=>if k=3002 then 900002 else k) (s':=⟨[(0,.by_ key),(6,.sl 3000 1 0 16),(9,.sl 3002 1 0 (lastX k0 x).length),(10,.lit (.int .i64 (x.length-16:Nat)))],[(3000,⟨.by_ Z,1,false⟩),(3002,⟨.by_ (lastX k0 x),0,false⟩)],4000,62⟩) ?_ (by simp only [go_sem,Int.natCast_add,hy] <;> (try and_intros) <;> (try omega))
  have hzl:Z.length=16:=by rw [← hZ];rfl
  have n1:(lastX k0 x).length % 16=0:=by omega
  have n2:(lastX k0 x).length≤1000000000:=by omega
  refine rK hs fun K hK=>?_;simp only [go_sem,sgN1,tz,hzl,h1,n1,n2,List.take_length]
  refine eK ?_;have n3:=sealB_len key Z (lastX k0 x) n1;have n4:x.length-16≤(sealB key Z (lastX k0 x)).length:=by omega
  have n5:(List.drop (x.length-16) (sealB key Z (lastX k0 x))).length≤140737488355328:=by rw [List.length_drop];omega
  have n6:List.take ((sealB key Z (lastX k0 x)).length-(x.length-16)) (List.drop (x.length-16) (sealB key Z (lastX k0 x)))=List.drop (x.length-16) (sealB key Z (lastX k0 x)):=List.take_of_length_le (by rw [List.length_drop];omega);refine rK hs fun K hK=>?_;simp only [go_sem,sgN1,n4,n5,n6]
  refine eK ?_;have er:codeB key b=List.drop (x.length-16) (sealB key Z (lastX k0 x)):=by
    unfold codeB;rw [← hi,hZ]
  refine rE [.fr (.by_ (codeB key b)),.lit (.int .i64 0)] [] [.tmp 4,.tmp 5] ?_;simp only [go_sem,sbT,er];all_goals exact agA
end
section
attribute [local irreducible] Tab encR expK xorB enc1 dec1 cphA sealB dbM padB
theorem lastX_len (k x:List UInt8) (h:16≤x.length):(lastX k x).length=x.length:=by
  unfold lastX;rw [List.length_append,List.length_take,xorB_len,List.length_drop];omega
theorem codeK_len (key b:List UInt8):(codeK key b).2.length % 16=0∧16≤(codeK key b).2.length:=by
  unfold codeK;obtain ⟨p1,p2,p3⟩:=padB_len b;split
  · exact ⟨p1,p2⟩
  · exact ⟨by show b.length % 16=0;omega,by show 16≤b.length;omega⟩
theorem codeB_len (key b:List UInt8):(codeB key b).length=16:=by
  obtain ⟨h1,h2⟩:=codeK_len key b;have h3:=lastX_len (codeK key b).1 (codeK key b).2 h2;unfold codeB;rw [List.length_drop,sealB_len _ _ _ (by omega),h3];omega
def chkB (key b:List UInt8):List UInt8:=(codeB key b).take 8
theorem chkB_len (key b:List UInt8):(chkB key b).length=8:=by
  unfold chkB;rw [List.length_take,codeB_len];rfl
attribute [local irreducible] codeB
def sgCk:Sg:=fun f args ls =>
  match f,args,ls with
  | 139,[.by_ key,.by_ b],[]=>some (.tup [.fr (.by_ (codeB key b)),.lit (.int .i64 0)],[],key.length=16∧b.length≤900000000)
  | _,_,_=>none
theorem sgCk_ok:SgOK Tryz.prog sgCk:=by
  intro f args ls r ls' vc h hvc;unfold sgCk at h;split at h <;> cases h
  · exact ⟨(fnOK Tryz.func139 (by decide) rfl),code_s _ _ hvc.1 hvc.2⟩
theorem check_s (key b:List UInt8) (h1:key.length=16) (h2:b.length≤900000000):FnS Tryz.prog 98 [.by_ key,.by_ b] [] (.tup [.by_ (chkB key b),.lit (.int .i64 0)]) []:=by
  have hs:=sgCk_ok;have hc:=codeB_len key b;refine fo Tryz.func98 19 fun X hX=>?_;refine up 1 ?_;refine rK hs fun K hK=>?_;simp only [go_sem,sgCk,h1,h2,hc]
  refine eK ?_;refine up 2 ?_;refine WA.cond rfl (fun h=>absurd h (by simp)) (fun h=>?_);refine up 1 ?_
  have ht:List.take 16 (codeB key b)=codeB key b:=List.take_of_length_le (by omega);have hch:chkB key b=List.take 8 (codeB key b):=rfl;refine rK hs fun K hK=>?_;simp only [go_sem,hc,ht,byL]
  refine eK ?_;refine rE [.by_ (chkB key b),.lit (.int .i64 0)] [] [.tmp 4,.tmp 5] ?_;simp only [go_sem,sbT,hch];all_goals exact agA
end
def fdn {T:Type} (p:T→Bool) (l:List T):Int:=if l.findIdx p<l.length then (l.findIdx p:Int) else -1
theorem fdn_yes {T:Type} {p:T→Bool} {l:List T} {i:Nat} (h:i<l.length) (h1:p l[i]=true) (h2:∀ j (hj:j<i),p (l[j]'(by omega))=false):fdn p l=i:=by
  have e:l.findIdx p=i:=(List.findIdx_eq h).2 ⟨h1,h2⟩;unfold fdn;rw [e,if_pos h]
theorem fdn_no {T:Type} {p:T→Bool} {l:List T} (h2:∀ j (hj:j<l.length),p l[j]=false):fdn p l = -1:=by
  have e:l.findIdx p=l.length:=List.findIdx_eq_length.2 fun x hx=>by
    obtain ⟨j,hj,rfl⟩:=List.getElem_of_mem hx;exact h2 j hj
  unfold fdn;rw [e,if_neg (Nat.lt_irrefl _)]
theorem fdn_any {T:Type} (p:T→Bool) (l:List T):decide (fdn p l ≥ 0)=l.any p:=by
  unfold fdn;cases h:l.any p with
  | true =>
    have h1:l.findIdx p<l.length:=List.findIdx_lt_length.2 (by simpa using h);rw [if_pos h1];simp
  | false =>
    have h1:¬ l.findIdx p<l.length:=fun h2=>by
      have:=List.findIdx_lt_length.1 h2;simp at h;obtain ⟨x,hx,hp⟩:=this;rw [h x hx] at hp;cases hp
    rw [if_neg h1];rfl
theorem by_at {l:List (List UInt8)} {i:Nat} (h:i<l.length):(l.map AV.by_).getD i .any = .by_ l[i]:=by
  simp [List.getD,List.getElem?_eq_getElem h]
def unB:AV→List UInt8
  | .by_ b=>b
  | _=>[]
theorem un_bys (l:List (List UInt8)):(l.map AV.by_).map unB=l:=by
  rw [List.map_map];exact List.map_id'' (fun _=>rfl) l
abbrev Bts:=List UInt8
open Classical in
noncomputable def sg_idxB_s (g:FuncId) (p:Bts→Bool):Sg:=fun f args ls =>
  match args,ls with
  | [.by_ b],[]=>if f=g then some (.lit (.bool (p b)),[],True) else none
  | _,_=>none
theorem sg_idxB_s_ok (g:FuncId) (p:Bts→Bool) (hok:FnOK Tryz.prog g) (hp:∀ x,FnS Tryz.prog g [AV.by_ x] [] (.lit (.bool (p x))) []):SgOK Tryz.prog (sg_idxB_s g p):=by
  intro f args ls r ls' vc h hvc;unfold sg_idxB_s at h;split at h
  · split at h
    · rename_i hc;subst hc;simp only [Option.some.injEq,Prod.mk.injEq] at h;obtain ⟨rfl,rfl,rfl⟩:=h;refine ⟨hok,?_⟩;exact hp _
    · cases h
  · cases h
theorem idxB_s (g:FuncId) (p:Bts→Bool) (l:List Bts) (hok:FnOK Tryz.prog g) (hp:∀ x,FnS Tryz.prog g [AV.by_ x] [] (.lit (.bool (p x))) []):FnS Tryz.prog 137 [.li 1 (l.map AV.by_),.clo g []] [] (.lit (.int .i64 (fdn p l))) []:=by
  have hs:=sg_idxB_s_ok g p hok hp;refine FnS.len fun hL _=>?_;have hL:=hL 0 1 _ rfl;rw [List.length_map] at hL;simp only [maxLen] at hL;have hcT:Tr (.clo g [])=True:=eq_true (Tr.clo fun x hx=>by cases hx);refine fo Tryz.func137 19 fun X hX=>?_;refine up 4 ?_;refine WA.loopW hX (fun k=>k) ((fun (i:Nat)=>⟨[(0,.li 1 (l.map AV.by_)),(1,.clo g []),(7,.lit (.int .i64 (l.length:Nat))),(8,.lit (.int .i64 (i:Nat)))],[],3000,19⟩:_→St)) (fun i=>l.length-i) (fun i=>i≤l.length ∧ ∀ j (hj:j<i) (hl:j<l.length),p l[j]=false) (i0:=0) (⟨by omega,fun j hj=>by omega⟩) (by simp only [go_sem,Int.natCast_add,Tr_bys,hcT] <;> (try and_intros) <;> (try omega)) fun i hi=>?_
  obtain ⟨hi,hno⟩:=hi;refine up 2 ?_;refine WA.cond rfl (fun h=>?_) (fun h=>?_)
  ·
    refine up 1 ?_
    have h6:i<l.length:=by have:=of_decide_eq_true h;omega
    have g1:=by_at h6;clear h;refine up 3 ?_;refine rK hs fun K hK=>?_;simp only [go_sem,sg_idxB_s,g1,Tr_bys]
    refine eK ?_;refine WA.cond rfl (fun h=>?_) (fun h=>?_)
    ·
      have e:fdn p l=i:=fdn_yes h6 h (fun j hj=>hno j hj (by omega));refine up 1 ?_;refine rE [.lit (.int .i64 (fdn p l))] [] [.tmp 4] ?_;simp only [go_sem,sbT,e]
    ·
      refine up 1 ?_
      refine WA.regionE ty_ok hs fun K hK=>?_;simp only [go_sem,true_and];and_intros
      all_goals try omega
      refine hK _ (roundE hX (fun k=>k) (j:=i+1) (⟨by omega,fun j hj hl=>by rcases Nat.lt_succ_iff_lt_or_eq.1 hj with q | rfl;exact hno j q hl;exact h⟩) (by first | omega | (dsimp only;omega) | (simp;omega)) (by simp only [go_sem,Int.natCast_add,Tr_bys,hcT] <;> (try and_intros) <;> (try omega)))
  ·
    have h6:i=l.length:=by have:=of_decide_eq_false h;omega
    subst h6;have e:fdn p l = -1:=fdn_no fun j hj=>hno j hj hj;refine up 2 ?_;refine rE [.lit (.int .i64 (fdn p l))] [] [.tmp 4] ?_;simp only [go_sem,sbT,e]
open Classical in
noncomputable def sg_ctB_s (g:FuncId) (p:Bts→Bool):Sg:=fun f args ls =>
  match f,args,ls with
  | 137,[.li es xs,.clo g' []],[]=>if g'=g then some (.lit (.int .i64 (fdn p (xs.map unB))),[],es=1∧xs=(xs.map unB).map AV.by_) else none
  | _,_,_=>none
theorem ctB_s (g:FuncId) (p:Bts→Bool) (l:List Bts) (hok:FnOK Tryz.prog g) (hp:∀ x,FnS Tryz.prog g [AV.by_ x] [] (.lit (.bool (p x))) []):FnS Tryz.prog 96 [.li 1 (l.map AV.by_),.clo g []] [] (.lit (.bool (l.any p))) []:=by
  have hs:SgOK Tryz.prog (sg_ctB_s g p):=by
    intro f args ls r ls' vc h hvc;unfold sg_ctB_s at h;split at h
    · split at h
      · rename_i hc;subst hc;simp only [Option.some.injEq,Prod.mk.injEq] at h;obtain ⟨rfl,rfl,rfl⟩:=h;rename_i es xs g';obtain ⟨rfl,h2⟩:=hvc;refine ⟨(fnOK Tryz.func137 (by decide) rfl),?_⟩;have:=idxB_s _ p (xs.map unB) hok hp;rw [← h2] at this;exact this
      · cases h
    · cases h
  have hcT:Tr (.clo g [])=True:=eq_true (Tr.clo fun x hx=>by cases hx);have e:=fdn_any p l;refine fo Tryz.func96 9 fun X hX=>?_;refine up 1 ?_;refine rK hs fun K hK=>?_;simp only [go_sem,sg_ctB_s,Tr_bys,hcT,un_bys]
  refine eK ?_;refine rE [.lit (.bool (l.any p))] [] [.tmp 4] ?_;simp only [go_sem,sbT,e]
section
attribute [local irreducible] digB keyB sealB chkB openB
def sgBs:Sg:=fun f args ls =>
  match f,args,ls with
  | 48,[.by_ a],[]=>some (.fr (.by_ (digB a)),[],a.length≤100000000)
  | 138,[.by_ a,.lit (.int .i64 k)],[]=>some (.tup [.by_ (keyB a k),.lit (.int .i64 0)],[],a.length≤10000000∧0≤k∧k≤65535)
  | _,_,_=>none
theorem sgBs_ok:SgOK Tryz.prog sgBs:=by
  intro f args ls r ls' vc h hvc;unfold sgBs at h;split at h <;> cases h
  · exact ⟨(fnOK Tryz.func48 (by decide) rfl),sum_s _ hvc⟩
  · exact ⟨(fnOK Tryz.func138 (by decide) rfl),key_s _ _ hvc.1 hvc.2⟩
def seedB (t:List UInt8):List UInt8:=(digB t).take 16
theorem seedB_len (t:List UInt8):(seedB t).length=16:=by
  unfold seedB;rw [List.length_take,digB_len];rfl
theorem seed_s (s:ByteArray) (h:s.data.toList.length≤1000000):FnS Tryz.prog 26 [.lit (.string s)] [] (.by_ (seedB s.data.toList)) []:=by
  have hs:=sgBs_ok;have hd:=digB_len s.data.toList;have ht:List.take 32 (digB s.data.toList)=digB s.data.toList:=List.take_of_length_le (by omega);have hk:seedB s.data.toList=(digB s.data.toList).take 16:=rfl;have h2:s.data.toList.length≤100000000:=by omega
  have h3:s.size≤9223372036854775807:=by
    have:s.data.toList.length=s.size:=by rw [Array.length_toList];rfl
    omega
  refine fo Tryz.func26 7 fun X hX=>?_;refine up 1 ?_;refine rK hs fun K hK=>?_;simp only [go_sem,sgBs,h2,hd,ht,byL]
  refine eK ?_;refine rE [.by_ (seedB s.data.toList)] [] [.tmp 2] ?_;simp only [go_sem,sbT,hk];all_goals exact agA
theorem keys_s (seed:List UInt8) (h:seed.length≤10000000):FnS Tryz.prog 97 [.by_ seed] [] (.tup [.by_ (keyB seed 1),.by_ (keyB seed 2)]) []:=by
  have hs:=sgBs_ok;refine fo Tryz.func97 16 fun X hX=>?_;refine up 1 ?_;refine rK hs fun K hK=>?_;simp only [go_sem,sgBs,h]
  refine eK ?_;refine rK hs fun K hK=>?_;simp only [go_sem,sgBs,h]
  refine eK ?_;refine up 1 ?_;refine rE [.by_ (keyB seed 1),.by_ (keyB seed 2)] [] [.tmp 2,.tmp 3] ?_;simp only [go_sem,sbT];all_goals exact agA
theorem sz1_s (b:Bts):FnS Tryz.prog 95 [.by_ b] [] (.lit (.bool (decide (b.length ≠ 8)))) []:=by
  have hs:=sg0_ok;refine fo Tryz.func95 6 fun X hX=>?_;refine up 2 ?_;have e:(((b.length:Nat):Int) != 8)=decide (b.length ≠ 8):=by
    by_cases h:b.length=8
    · simp [h]
    · simp [h];omega
  refine rE [.lit (.bool (decide (b.length ≠ 8)))] [] [.tmp 2] ?_;simp only [go_sem,sbT,e];all_goals exact agA
def sgSz:Sg:=fun f args ls =>
  match f,args,ls with
  | 96,[.li 1 xs,.clo 95 []],[]=>some (.lit (.bool ((xs.map unB).any fun b=>decide (b.length ≠ 8))),[],xs=(xs.map unB).map AV.by_)
  | _,_,_=>none
theorem sgSz_ok:SgOK Tryz.prog sgSz:=by
  intro f args ls r ls' vc h hvc;unfold sgSz at h;split at h <;> cases h
  · rename_i xs;have:=ctB_s 95 (fun b=>decide (b.length ≠ 8)) (xs.map unB) (fnOK Tryz.func95 (by decide) rfl) (fun x=>sz1_s x);rw [← hvc] at this;exact ⟨(fnOK Tryz.func96 (by decide) rfl),this⟩
theorem sizes_s (seed half:List UInt8) (l:List (List UInt8)) (h1:seed.length=16) (h2:half.length=16) (h3:∀ b∈l,b.length=8):FnS Tryz.prog 49 [.by_ seed,.by_ half,.li 1 (l.map AV.by_)] [] (.lit (.bool true)) []:=by
  have hs:=sgSz_ok;have ha:(l.any fun b=>decide (b.length ≠ 8))=false:=by
    rw [List.any_eq_false];intro b hb;simp [h3 b hb]
  refine fo Tryz.func49 22 fun X hX=>?_;refine up 2 ?_;have hT:=Tr_bys l;refine rK hs fun K hK=>?_;simp only [go_sem,sgSz,h1,h2,hT,un_bys,ha]
  refine eK ?_;refine rE [.lit (.bool true)] [] [.tmp 6] ?_;simp only [go_sem,sbT];all_goals exact agA
end
section
attribute [local irreducible] digB keyB sealB chkB openB seedB
def sgBm:Sg:=fun f args ls =>
  match f,args,ls with
  | 77,[.li 1 [.by_ a,.by_ b,.by_ c]],[]=>some (.fr (.by_ (a++b++c)),[],a.length+b.length+c.length≤140737488355328)
  | 97,[.by_ s],[]=>some (.tup [.by_ (keyB s 1),.by_ (keyB s 2)],[],s.length≤10000000)
  | 64,[.by_ key,.by_ iv,.by_ d],[]=>some (.tup [.fr (.by_ (sealB key iv d)),.lit (.int .i64 0)],[],key.length=16∧iv.length=16∧d.length % 16=0∧d.length≤1000000000)
  | 99,[.by_ key,.by_ iv,.by_ d],[]=>some (.tup [.fr (.by_ (openB key iv d)),.lit (.int .i64 0)],[],key.length=16∧iv.length=16∧d.length % 16=0∧d.length≤1000000000)
  | 98,[.by_ key,.by_ b],[]=>some (.tup [.by_ (chkB key b),.lit (.int .i64 0)],[],key.length=16∧b.length≤900000000)
  | 52,[.by_ a,.by_ b],[]=>some (.lit (.bool (decide (a=b))),[],True)
  | _,_,_=>none
theorem sgBm_ok:SgOK Tryz.prog sgBm:=by
  intro f args ls r ls' vc h hvc;unfold sgBm at h;split at h <;> cases h
  · rename_i a b c;have:=concat_s [a,b,c] (by simp [sumL];omega) (by simp);refine ⟨(fnOK Tryz.func77 (by decide) rfl),?_⟩;simpa [flatL] using this
  · exact ⟨(fnOK Tryz.func97 (by decide) rfl),keys_s _ hvc⟩
  · exact ⟨(fnOK Tryz.func64 (by decide) rfl),seal_s _ _ _ hvc.1 hvc.2.1 hvc.2.2.1 hvc.2.2.2⟩
  · exact ⟨(fnOK Tryz.func99 (by decide) rfl),open_s _ _ _ hvc.1 hvc.2.1 hvc.2.2.1 hvc.2.2.2⟩
  · exact ⟨(fnOK Tryz.func98 (by decide) rfl),check_s _ _ hvc.1 hvc.2⟩
  · exact ⟨(fnOK Tryz.func52 (by decide) rfl),bequal_s _ _⟩
def msC (seed a b h:List UInt8):List UInt8:=sealB (keyB seed 1) (List.replicate 16 0) (a++b++h)
def msB (seed a b h:List UInt8):List UInt8:=msC seed a b h++chkB (keyB seed 2) (msC seed a b h)
section
variable {seed a b h:List UInt8} (h0:seed.length≤1000000) (h1:a.length=8) (h2:b.length=8) (h3:h.length=16)
include h1 h2 h3
theorem msC_len:(msC seed a b h).length=32:=by
  unfold msC;rw [sealB_len _ _ _ (by simp;omega)];simp;omega
theorem msB_len:(msB seed a b h).length=40:=by
  unfold msB;rw [List.length_append,msC_len h1 h2 h3,chkB_len]
include h0
theorem message_s:FnS Tryz.prog 50 [.by_ seed,.by_ a,.by_ b,.by_ h] [] (.by_ (msB seed a b h)) []:=by
  have hs:=sgBm_ok;have k1:=keyB_len seed 1;have k2:=keyB_len seed 2;have hz:(List.replicate 16 (0:UInt8)).length=16:=rfl;have tz:List.take 16 (List.replicate 16 (0:UInt8))=List.replicate 16 0:=rfl;have hl:(a++b++h).length=32:=by simp;omega
  have ht:List.take 32 (a++b++h)=a++b++h:=List.take_of_length_le (by omega);have hc:=msC_len (seed:=seed) h1 h2 h3;have hm:msC seed a b h=sealB (keyB seed 1) (List.replicate 16 0) (a++b++h):=rfl;have hcl:=chkB_len (keyB seed 2) (msC seed a b h);have h00:seed.length≤10000000:=by omega
  refine fo Tryz.func50 40 fun X hX=>?_;refine up 1 ?_;refine rK hs fun K hK=>?_;simp only [go_sem,sgBm,h00]
  refine eK ?_;refine WA.drawnK mixed_ ty_ok hs (tbl:=[[],[],[],[],[],[2,3,4],[2,3,4,5],[0,1,2,3,4,5,6],[0,1,2,3,4,5,6,7],[0,1,2,3,4,5,6,7,8],[0,1,2,3,4,5,6,7,8],[0,1,2,3,4,5,6,7,8,9],[0,1,2,3,4,5,6,7,8,9,10,11]]) (nb:=[6,7]) (by kernel_rfl) fun K hK=>?_;simp only [go_sem,sgBm,k1,hz,tz,h1,h2,h3,hl,ht,← hm,hc]
  refine eK ?_;have ht2:List.take 32 (msC seed a b h)=msC seed a b h:=List.take_of_length_le (by omega);have hb:msB seed a b h=msC seed a b h++chkB (keyB seed 2) (msC seed a b h):=rfl;refine rK hs fun K hK=>?_;simp only [go_sem,sgBm,k2,hc,ht2]
  refine eK ?_;refine rK hs fun K hK=>?_;simp only [go_sem,hcl,hc,← hb]
  refine eK ?_;have hbl:=msB_len (seed:=seed) h1 h2 h3;have ht3:List.take 40 (msB seed a b h)=msB seed a b h:=List.take_of_length_le (by omega);refine rE [.by_ (msB seed a b h)] [] [.tmp 8] ?_;simp only [go_sem,sbT,hbl,ht3];all_goals exact agA
theorem read_s:FnS Tryz.prog 51 [.by_ seed,.by_ (msB seed a b h)] [] (.tup [.by_ a,.by_ b,.by_ h,.lit (.int .i64 0)]) []:=by
  have hs:=sgBm_ok;have k1:=keyB_len seed 1;have k2:=keyB_len seed 2;have hz:(List.replicate 16 (0:UInt8)).length=16:=rfl;have tz:List.take 16 (List.replicate 16 (0:UInt8))=List.replicate 16 0:=rfl;have hl:(a++b++h).length=32:=by simp;omega
  have hc:=msC_len (seed:=seed) h1 h2 h3;have hcl:=chkB_len (keyB seed 2) (msC seed a b h);have h00:seed.length≤10000000:=by omega
  have hb:msB seed a b h=msC seed a b h++chkB (keyB seed 2) (msC seed a b h):=rfl;have hbl:=msB_len (seed:=seed) h1 h2 h3;have e1:List.take 32 (msB seed a b h)=msC seed a b h:=by rw [hb,← hc,List.take_left]
  have e2:List.drop 32 (msB seed a b h)=chkB (keyB seed 2) (msC seed a b h):=by rw [hb,← hc,List.drop_left]
  have e3:openB (keyB seed 1) (List.replicate 16 0) (msC seed a b h)=a++b++h:=open_seal _ _ _ (by omega);have e4:List.take 8 (a++b++h)=a:=by rw [List.append_assoc,← h1,List.take_left]
  have e5:List.take 8 (List.drop 8 (a++b++h))=b:=by rw [List.append_assoc,← h1,List.drop_left,h1,← h2,List.take_left]
  have e6:List.drop 16 (a++b++h)=h:=by
    have:(a++b).length=16:=by simp;omega
    rw [← this,List.drop_left]
  have e7:List.take 16 h=h:=List.take_of_length_le (by omega);refine fo Tryz.func51 46 fun X hX=>?_;refine up 1 ?_;refine rK hs fun K hK=>?_;simp only [go_sem,sgBm,h00]
  refine eK ?_;refine rK hs fun K hK=>?_;simp only [go_sem,hbl,e1]
  refine eK ?_;refine rK hs fun K hK=>?_;simp only [go_sem,sgBm,k2,hc]
  refine eK ?_;refine up 1 ?_;have ht40:List.take 40 (msB seed a b h)=msB seed a b h:=List.take_of_length_le (by omega);refine rK hs fun K hK=>?_;simp only [go_sem,sgBm,hbl,e2,ht40,decide_true,Bool.not_true]
  refine eK ?_;refine up 2 ?_
  refine rK hs fun K hK=>?_;simp only [go_sem,sgBm,k1,hz,tz,hc,e3,hl]
  refine eK ?_;refine WA.drawnK mixed_ ty_ok hs (tbl:=[[],[0],[],[2],[],[4],[0,1],[0,1,2,3,6],[0,1,2,3,4,5,6,7],[0,1,2,3,4,5,6,7,8]]) (nb:=[]) (by kernel_rfl) fun K hK=>?_;simp only [go_sem,hl]
  refine eK ?_;refine rE [.by_ a,.by_ b,.by_ h,.lit (.int .i64 0)] [] [.tmp 4,.tmp 5,.tmp 6,.tmp 7] ?_;simp only [go_sem,sbT,e4,e5,e6,e7,hl]
end
end
section
attribute [local irreducible] digB keyB sealB chkB openB seedB
def ssA (e c:List UInt8) (n:Int):AV:=.agg [.by_ e,.by_ c,.lit (.int .i64 n)]
theorem Tr_ssA (e c:List UInt8) (n:Int):Tr (ssA e c n)=True:=eq_true (Tr.agg fun x hx=>by
  simp only [List.mem_cons,List.not_mem_nil,or_false] at hx;rcases hx with rfl | rfl | rfl
  · exact Tr.by_ _
  · exact Tr.by_ _
  · exact Tr.lit _)
theorem mvalid_s (e c:List UInt8) (n:Int) (h1:e.length=16) (h2:c.length=16) (h3:0≤n∧n≤1099511627776):FnS Tryz.prog 33 [ssA e c n] [] (.lit (.bool true)) []:=by
  have hs:=sg0_ok;have e1:decide (n ≥ 0)=true:=decide_eq_true h3.1;have e2:decide (n≤1099511627776)=true:=decide_eq_true h3.2;unfold ssA;refine fo Tryz.func33 23 fun X hX=>?_;refine up 1 ?_;refine rK hs fun K hK=>?_;simp only [go_sem,h1,h2,e1,e2]
  refine eK ?_;refine rE [.lit (.bool true)] [] [.tmp 2] ?_;simp only [go_sem,sbT];all_goals exact agA
theorem xor2_s (a b:List UInt8) (h:a.length=b.length) (h2:a.length≤1000000):FnS Tryz.prog 100 [.by_ a,.by_ b] [] (.tup [.fr (.by_ (xorL a b)),.lit (.int .i64 0)]) []:=by
  have hr:xorR a b=xorL a b:=by simp [xorR,h]
  have:=FnS.fr2 (P:=Tryz.prog) (f:=100) (args:=[.by_ a,.by_ b]) (L:=xorR a b) (err:=if a.length=b.length then 0 else 2) (fun w S m vs hs hl ha=>by
    obtain ⟨v,u,rfl,h1,h2'⟩:=arr2 hl ha;obtain ⟨A,c,rfl,hr⟩:=Rd_of_VR h1 hs;obtain ⟨A',c',rfl,hr'⟩:=Rd_of_VR h2' hs;exact xor_any A A' _ c _ c' a b w hr hr' (by omega))
  rw [hr,if_pos h] at this;exact this
def sgMst:Sg:=fun f args ls =>
  match f,args,ls with
  | 46,[.by_ bs],[]=>some (.fr (.by_ bs),[],bs.length≤140737488355328)
  | 33,[.agg [.by_ e,.by_ c,.lit (.int .i64 n)]],[]=>some (.lit (.bool true),[],e.length=16∧c.length=16∧0≤n∧n≤1099511627776)
  | _,_,_=>none
theorem sgMst_ok:SgOK Tryz.prog sgMst:=by
  intro f args ls r ls' vc h hvc;unfold sgMst at h;split at h <;> cases h
  · exact ⟨(fnOK Tryz.func46 (by decide) rfl),sclone_s _ hvc⟩
  · exact ⟨(fnOK Tryz.func33 (by decide) rfl),mvalid_s _ _ _ hvc.1 hvc.2.1 hvc.2.2⟩
theorem mstart_s (e c:List UInt8) (n:Int) (h1:e.length=16) (h2:c.length=16) (h3:0≤n∧n≤1099511627776):FnS Tryz.prog 102 [.by_ e,.by_ c,.lit (.int .i64 n)] [] (.tup [ssA e c n,.lit (.int .i64 0)]) []:=by
  have hs:=sgMst_ok;have t1:List.take 16 e=e:=List.take_of_length_le (by omega);have t2:List.take 16 c=c:=List.take_of_length_le (by omega);refine fo Tryz.func102 31 fun X hX=>?_;refine up 1 ?_;refine rK hs fun K hK=>?_;simp only [go_sem,sgMst,h1,h2]
  refine eK ?_;refine up 2 ?_;refine rK hs fun K hK=>?_;simp only [go_sem,h1,h2]
  refine eK ?_;refine up 1 ?_;refine rK hs fun K hK=>?_;simp only [go_sem,sgMst,h1,h2,h3,t1,t2]
  refine eK ?_;refine up 3 ?_;refine rE [ssA e c n,.lit (.int .i64 0)] [] [.cell 6 55,.tmp 7] ?_;simp only [go_sem,sbT,ssA];exact ⟨⟨by omega,by omega⟩,t1,t2⟩
end
section
attribute [local irreducible] digB keyB sealB chkB openB seedB msB
def ctrN (chip term:List UInt8):Int:=numV (chip.drop 6++term.drop 6)
theorem ctrN_r (chip term:List UInt8) (h1:chip.length=8) (h2:term.length=8):0≤ctrN chip term∧ctrN chip term≤4294967296:=by
  have hl:(chip.drop 6++term.drop 6).length=4:=by simp;omega
  have h:=numS_lt (chip.drop 6++term.drop 6);rw [hl] at h;unfold ctrN numV;rw [if_neg (by omega)];have:256 ^ 4=4294967296:=by decide
  omega
def seX (a b:List UInt8):List UInt8:=xorL a b
def sesA (a b chip term:List UInt8):AV:=ssA (keyB (seX a b) 1) (keyB (seX a b) 2) (ctrN chip term)
theorem seX_comm (a b:List UInt8):seX a b=seX b a:=by
  unfold seX xorL;rw [List.zipWith_comm];congr 1
  funext x y
  exact UInt8.xor_comm _ _
theorem sesA_comm (a b chip term:List UInt8):sesA a b chip term=sesA b a chip term:=by
  unfold sesA;rw [seX_comm]
def sgSe:Sg:=fun f args ls =>
  match f,args,ls with
  | 100,[.by_ a,.by_ b],[]=>some (.tup [.fr (.by_ (xorL a b)),.lit (.int .i64 0)],[],a.length=b.length∧a.length≤1000000)
  | 97,[.by_ s],[]=>some (.tup [.by_ (keyB s 1),.by_ (keyB s 2)],[],s.length≤10000000)
  | 77,[.li 1 [.by_ a,.by_ b]],[]=>some (.fr (.by_ (a++b)),[],a.length+b.length≤140737488355328)
  | 101,[.by_ b],[]=>some (.tup [.lit (.int .i64 (numV b)),.lit (.int .i64 (numE b))],[],True)
  | 102,[.by_ e,.by_ c,.lit (.int .i64 n)],[]=>some (.tup [ssA e c n,.lit (.int .i64 0)],[],e.length=16∧c.length=16∧0≤n∧n≤1099511627776)
  | _,_,_=>none
theorem sgSe_ok:SgOK Tryz.prog sgSe:=by
  intro f args ls r ls' vc h hvc;unfold sgSe at h;split at h <;> cases h
  · exact ⟨(fnOK Tryz.func100 (by decide) rfl),xor2_s _ _ hvc.1 hvc.2⟩
  · exact ⟨(fnOK Tryz.func97 (by decide) rfl),keys_s _ hvc⟩
  · rename_i a b;have:=concat_s [a,b] (by simp [sumL];omega) (by simp);refine ⟨(fnOK Tryz.func77 (by decide) rfl),?_⟩;simpa [flatL] using this
  · exact ⟨(fnOK Tryz.func101 (by decide) rfl),number_s _⟩
  · exact ⟨(fnOK Tryz.func102 (by decide) rfl),mstart_s _ _ _ hvc.1 hvc.2.1 hvc.2.2⟩
theorem session_s (a b chip term:List UInt8) (h1:a.length=16) (h2:b.length=16) (h3:chip.length=8) (h4:term.length=8):FnS Tryz.prog 53 [.by_ a,.by_ b,.by_ chip,.by_ term] [] (sesA a b chip term) []:=by
  have hs:=sgSe_ok;have hx:(xorL a b).length=16:=by rw [length_xorL _ _ (by omega),h1]
  have hx0:seX a b=xorL a b:=rfl;have hx2:(seX a b).length≤10000000:=by rw [hx0];omega
  have k1:=keyB_len (seX a b) 1;have k2:=keyB_len (seX a b) 2;have tx:List.take 16 (seX a b)=seX a b:=List.take_of_length_le (by rw [hx0];omega);obtain ⟨n1,n2⟩:=ctrN_r chip term h3 h4;have n3:ctrN chip term≤1099511627776:=by omega
  have c1:(chip.drop 6).length=2:=by simp;omega
  have c2:(term.drop 6).length=2:=by simp;omega
  have hn:ctrN chip term=numV (chip.drop 6++term.drop 6):=rfl;have tn:List.take 4 (chip.drop 6++term.drop 6)=chip.drop 6++term.drop 6:=List.take_of_length_le (by rw [List.length_append];omega);have c0:List.take 8 chip=chip:=List.take_of_length_le (by omega);have c01:List.take 8 term=term:=List.take_of_length_le (by omega);refine fo Tryz.func53 46 fun X hX=>?_;refine up 1 ?_;have hL:(a.length=b.length)=True:=eq_true (by omega);have hL2:(a.length≤1000000)=True:=eq_true (by omega);refine rK hs fun K hK=>?_;simp only [go_sem,sgSe,h1,h2,hL,hL2,hx,← hx0]
  refine eK ?_;refine rK hs fun K hK=>?_;simp only [go_sem,sgSe,hx2,tx,hx0 ▸ hx]
  refine eK ?_;refine WA.drawnK mixed_ ty_ok hs (tbl:=[[],[0],[],[2],[0,1,2,3],[0,1,2,3,4],[0,1,2,3,4,5],[0,1,2,3,4,5,6],[0,1,2,3,4,5,6,7],[0,1,2,3,4,5,6,7],[0,1,2,3,4,5,6,7,8],[0,1,2,3,4,5,6,7,8,9,10]]) (nb:=[5,6]) (by kernel_rfl) fun K hK=>?_;simp only [go_sem,sgSe,h3,h4,c0,c01,c1,c2,← hn,tn]
  refine eK ?_;refine rK hs fun K hK=>?_;simp only [go_sem,sgSe,k1,k2,n1,n3,ssA]
  refine eK ?_;refine up 1 ?_;refine rE [sesA a b chip term] [] [.cell 8 55] ?_;simp only [go_sem,sbT,sesA,ssA];all_goals exact agA
theorem Tr_sesA (a b chip term:List UInt8):Tr (sesA a b chip term)=True:=Tr_ssA _ _ _
attribute [local irreducible] sesA
def sgBa (a b h:List UInt8):Sg:=fun f args ls =>
  match f,args,ls with
  | 49,[.by_ s,.by_ h,.li 1 [.by_ x]],[]=>some (.lit (.bool true),[],s.length=16∧h.length=16∧x.length=8)
  | 49,[.by_ s,.by_ h,.li 1 [.by_ x,.by_ y]],[]=>some (.lit (.bool true),[],s.length=16∧h.length=16∧x.length=8∧y.length=8)
  | 50,[.by_ s,.by_ x,.by_ y,.by_ z],[]=>some (.by_ (msB s x y z),[],s.length≤1000000∧x.length=8∧y.length=8∧z.length=16)
  | 51,[.by_ s,.by_ m],[]=>some (.tup [.by_ a,.by_ b,.by_ h,.lit (.int .i64 0)],[],m=msB s a b h∧s.length≤1000000∧a.length=8∧b.length=8∧h.length=16)
  | 52,[.by_ a,.by_ b],[]=>some (.lit (.bool (decide (a=b))),[],True)
  | 53,[.by_ x,.by_ y,.by_ c,.by_ t],[]=>some (sesA x y c t,[],x.length=16∧y.length=16∧c.length=8∧t.length=8)
  | _,_,_=>none
theorem sgBa_ok (a b h:List UInt8):SgOK Tryz.prog (sgBa a b h):=by
  intro f args ls r ls' vc h hvc;unfold sgBa at h;split at h <;> cases h
  · rename_i s h x;exact ⟨(fnOK Tryz.func49 (by decide) rfl),sizes_s s h [x] hvc.1 hvc.2.1 (fun b hb=>by rw [List.mem_singleton] at hb;subst hb;exact hvc.2.2)⟩
  · rename_i s h x y;refine ⟨(fnOK Tryz.func49 (by decide) rfl),sizes_s s h [x,y] hvc.1 hvc.2.1 (fun b hb=>?_)⟩;simp only [List.mem_cons,List.not_mem_nil,or_false] at hb;rcases hb with rfl | rfl
    · exact hvc.2.2.1
    · exact hvc.2.2.2
  · exact ⟨(fnOK Tryz.func50 (by decide) rfl),message_s hvc.1 hvc.2.1 hvc.2.2.1 hvc.2.2.2⟩
  · obtain ⟨rfl,h1,h2,h3,h4⟩:=hvc;exact ⟨(fnOK Tryz.func51 (by decide) rfl),read_s h1 h2 h3 h4⟩
  · exact ⟨(fnOK Tryz.func52 (by decide) rfl),bequal_s _ _⟩
  · exact ⟨(fnOK Tryz.func53 (by decide) rfl),session_s _ _ _ _ hvc.1 hvc.2.1 hvc.2.2.1 hvc.2.2.2⟩
theorem answer_s {seed chip half ft hf:List UInt8} (h0:seed.length=16) (h1:chip.length=8) (h3:half.length=16) (h4:ft.length=8) (h5:hf.length=16):FnS Tryz.prog 193 [.by_ seed,.by_ chip,.by_ half,.by_ (msB seed ft chip hf)] [] (.tup [.by_ (msB seed chip ft half),sesA half hf chip ft,.lit (.int .i64 0)]) []:=by
  have hs:=sgBa_ok ft chip hf;have h00:seed.length≤1000000:=by omega
  have hm:(msB seed ft chip hf).length=40:=msB_len h4 h1 h5;have tc:List.take 8 chip=chip:=List.take_of_length_le (by omega);have hT:=Tr_sesA half hf chip ft;have hss:∃ e c n,sesA half hf chip ft=ssA e c n:=by
    unfold sesA;exact ⟨_,_,_,rfl⟩
  obtain ⟨e,c,n,hss⟩:=hss;refine fo Tryz.func193 55 fun X hX=>?_;refine up 2 ?_;refine rK hs fun K hK=>?_;simp only [go_sem,sgBa,h0,h1,h3,hm,Bool.not_true]
  refine eK ?_;refine up 2 ?_
  refine rK hs fun K hK=>?_;simp only [go_sem,sgBa,h00,h1,h4,h5]
  refine eK ?_;refine up 4 ?_;refine rK hs fun K hK=>?_;simp only [go_sem,sgBa,decide_true,Bool.not_true]
  refine eK ?_;refine up 2 ?_
  refine rK hs fun K hK=>?_;simp only [go_sem,sgBa,h00,h1,h3,h4,h5,hss,ssA]
  refine eK ?_;refine rE [.by_ (msB seed chip ft half),sesA half hf chip ft,.lit (.int .i64 0)] [] [.tmp 8,.cell 9 55,.tmp 10] ?_;simp only [go_sem,sbT,hss,ssA];all_goals exact agA
section
variable {seed chip own half:List UInt8} (h0:seed.length=16) (h1:chip.length=8) (h2:own.length=8) (h3:half.length=16)
include h0 h1 h2 h3
theorem ask_s:FnS Tryz.prog 27 [.by_ seed,.by_ chip,.by_ own,.by_ half] [] (.tup [.by_ (msB seed own chip half),.lit (.int .i64 0)]) []:=by
  have hs:=sgBa_ok [] [] [];have h00:seed.length≤1000000:=by omega
  refine fo Tryz.func27 22 fun X hX=>?_;refine up 2 ?_;refine rK hs fun K hK=>?_;simp only [go_sem,sgBa,h0,h1,h2,h3,Bool.not_true]
  refine eK ?_;refine up 2 ?_
  refine rK hs fun K hK=>?_;simp only [go_sem,sgBa,h00,h1,h2,h3]
  refine eK ?_;refine rE [.by_ (msB seed own chip half),.lit (.int .i64 0)] [] [.tmp 8,.tmp 9] ?_;simp only [go_sem,sbT];all_goals exact agA
theorem finish_s {hc:List UInt8} (h5:hc.length=16):FnS Tryz.prog 28 [.by_ seed,.by_ chip,.by_ own,.by_ half,.by_ (msB seed chip own hc)] [] (.tup [sesA hc half chip own,.lit (.int .i64 0)]) []:=by
  rw [sesA_comm hc half];have hs:=sgBa_ok chip own hc;have h00:seed.length≤1000000:=by omega
  have hm:(msB seed chip own hc).length=40:=msB_len h1 h2 h5;have hss:∃ e c n,sesA half hc chip own=ssA e c n:=by
    unfold sesA;exact ⟨_,_,_,rfl⟩
  obtain ⟨e,c,n,hss⟩:=hss;rw [hss];refine fo Tryz.func28 59 fun X hX=>?_;refine up 2 ?_;refine rK hs fun K hK=>?_;simp only [go_sem,sgBa,h0,h1,h2,h3,hm,Bool.not_true]
  refine eK ?_;refine up 2 ?_
  refine rK hs fun K hK=>?_;simp only [go_sem,sgBa,h00,h1,h2,h5]
  refine eK ?_;refine up 4 ?_;refine rK hs fun K hK=>?_;simp only [go_sem,sgBa,decide_true,Bool.not_true]
  refine eK ?_;refine up 2 ?_
  refine rK hs fun K hK=>?_;simp only [go_sem,sgBa,h1,h2,h3,h5,hss,ssA]
  refine eK ?_;refine rE [ssA e c n,.lit (.int .i64 0)] [] [.cell 10 55,.tmp 11] ?_;simp only [go_sem,sbT,hss,ssA];all_goals exact agA
end
end
theorem beqi (a b:Int):(a == b)=decide (a=b):=rfl
def longT (x:Int):Bool:=bits .and .i64 x 31 == 31
def tagV (t:Int):Bool:=if t<256 then decide (0<t) && !longT t else decide (t.fdiv 256<256) && longT (t.fdiv 256) && decide (1≤bits .and .i64 t 255) && decide (bits .and .i64 t 255≤127)
def consT (t:Int):Bool:=if tagV t=true then !(bits .and .i64 (if 255<t then t.fdiv 256 else t) 32 == 0) else false
theorem long_s (x:Int):FnS Tryz.prog 212 [.lit (.int .i64 x)] [] (.lit (.bool (longT x))) []:=by
  have hs:=sg0_ok;refine fo Tryz.func212 6 fun X hX=>?_;refine up 2 ?_;refine rE [.lit (.bool (longT x))] [] [.tmp 2] ?_;simp only [go_sem,sbT,longT];all_goals exact agA
def sgTlg:Sg:=fun f args ls =>
  match f,args,ls with
  | 212,[.lit (.int .i64 x)],[]=>some (.lit (.bool (longT x)),[],True)
  | _,_,_=>none
theorem sgTlg_ok:SgOK Tryz.prog sgTlg:=by
  intro f args ls r ls' vc h hvc;unfold sgTlg at h;split at h <;> cases h
  exact ⟨(fnOK Tryz.func212 (by decide) rfl),long_s _⟩
theorem tvalid_s (t:Int):FnS Tryz.prog 162 [.lit (.int .i64 t)] [] (.lit (.bool (tagV t))) []:=by
  have hs:=sgTlg_ok;refine fo Tryz.func162 32 fun X hX=>?_;refine up 3 ?_;refine WA.cond rfl (fun h=>?_) (fun h=>?_)
  ·
    have h:t<256:=by first | (simp [true_and] at h;omega) | (simp [true_and] at h;exact h) | omega | simpa using h
    refine rK hs fun K hK=>?_;simp only [go_sem,sgTlg]
    refine eK ?_;refine rE [.lit (.bool (tagV t))] [] [.tmp 2] ?_;simp only [go_sem,sbT,tagV,h];all_goals exact agA
    all_goals (cases decide (0<t) <;> cases longT t <;> rfl)
  ·
    have h:¬ t<256:=by first | (simp [true_and] at h;omega) | (simp [true_and] at h;exact h) | omega | simpa using h
    refine up 2 ?_;refine rK hs fun K hK=>?_;simp only [go_sem,sgTlg]
    refine eK ?_;refine rE [.lit (.bool (tagV t))] [] [.tmp 2] ?_;simp only [go_sem,sbT,tagV,h];all_goals exact agA
    all_goals (cases decide (t.fdiv 256<256) <;> cases longT (t.fdiv 256) <;> cases decide (1≤bits .and .i64 t 255) <;> rfl)
def sgTtv:Sg:=fun f args ls =>
  match f,args,ls with
  | 162,[.lit (.int .i64 x)],[]=>some (.lit (.bool (tagV x)),[],True)
  | _,_,_=>none
theorem sgTtv_ok:SgOK Tryz.prog sgTtv:=by
  intro f args ls r ls' vc h hvc;unfold sgTtv at h;split at h <;> cases h
  exact ⟨(fnOK Tryz.func162 (by decide) rfl),tvalid_s _⟩
theorem cons_s (t:Int):FnS Tryz.prog 161 [.lit (.int .i64 t)] [] (.lit (.bool (consT t))) []:=by
  have hs:=sgTtv_ok;refine fo Tryz.func161 13 fun X hX=>?_;refine up 2 ?_;refine rK hs fun K hK=>?_;simp only [go_sem,sgTtv]
  refine eK ?_;refine WA.cond rfl (fun h=>?_) (fun h=>?_)
  ·
    have h:tagV t=false:=by simpa using h
    refine up 1 ?_;refine rE [.lit (.bool (consT t))] [] [.tmp 2] ?_;simp only [go_sem,sbT,consT,h];all_goals exact agA
  ·
    have h:tagV t=true:=by simpa using h
    refine up 3 ?_;refine WA.cond rfl (fun h1=>?_) (fun h1=>?_)
    ·
      have h1:255<t:=by first | (simp [true_and] at h1;omega) | (simp [true_and] at h1;exact h1) | omega | simpa using h1
      refine up 2 ?_;refine rE [.lit (.bool (consT t))] [] [.tmp 2] ?_;simp only [go_sem,sbT,consT,h,h1];all_goals rfl
    ·
      have h1:¬ 255<t:=by first | (simp [true_and] at h1;omega) | (simp [true_and] at h1;exact h1) | omega | simpa using h1
      refine up 2 ?_;refine rE [.lit (.bool (consT t))] [] [.tmp 2] ?_;simp only [go_sem,sbT,consT,h,h1];all_goals rfl
end Go.Proofs.YtjjkfpbkmhfckaaGreatDoor
