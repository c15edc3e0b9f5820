import Derived.Test.YtjjkfpbkmhfckaaGreatDoorK12
set_option linter.unusedVariables false
set_option linter.unusedSimpArgs false
set_option maxHeartbeats 1000000
set_option maxRecDepth 10000
namespace Go.Proofs.YtjjkfpbkmhfckaaGreatDoor.Ch
open Go.RowKit Go.TravelBase Go.TravelAbs
theorem numV_rng {bs:List UInt8} (h:bs.length≤1):0≤numV bs∧numV bs≤255:=by
  have h1:=numS_lt bs;have h2:256 ^ bs.length≤256 ^ 1:=Nat.pow_le_pow_right (by omega) h;unfold numV;split <;> omega
theorem ownC {P:Program} {X:Cx} {c:Code} {Q:Exit→Act→World→Prop} {s:St} (k es off:Nat) (x c':AV) (hb:lk s.H k=some ⟨.li es [x],0,false⟩) (hx:x.cl[off]? = some (.lit (.slice none 0 0))) (hc:cN c'=0) {x':AV} (hx':x'.cl=x.cl.set off (.sl s.ctr (cE c') 0 0)) (h:WA P X c Q ⟨s.tm,(k,⟨.li es [x'],0,false⟩)::(s.ctr,⟨c',0,false⟩)::s.H,s.ctr+8,s.sz⟩):WA P X c Q s:=fun a w hR =>
  h a w (hR.own0c k es off x c' 0 false hb rfl hx hc hx')
def sgU:Sg:=fun f args ls =>
  match f,args,ls with
  | 143,[.ptr 0 0 0,.lit (.int .i64 z)],[.li 3 [.agg [.by_ d,.lit (.int .i64 p),.lit (.bool b)]]]=>some (.by_ (tkL d p.toNat b z.toNat),[.li 3 [.agg [.by_ d,.lit (.int .i64 (tkP d p.toNat b z.toNat:Nat)),.lit (.bool (tkF d p.toNat b z.toNat))]]],(0≤z∧z≤255)∧(0≤p∧p≤d.length)∧d.length≤1000)
  | 142,[.ptr 0 0 0,.lit (.int .i64 z)],[.li 3 [.agg [.by_ d,.lit (.int .i64 p),.lit (.bool b)]]]=>some (.lit (.int .i64 (numV (tkL d p.toNat b z.toNat))),[.li 3 [.agg [.by_ d,.lit (.int .i64 (tkP d p.toNat b z.toNat:Nat)),.lit (.bool (tkF d p.toNat b z.toNat))]]],(0≤z∧z≤255)∧(0≤p∧p≤d.length)∧d.length≤1000)
  | 144,[.by_ bs],[]=>some (.tup [.lit (.int .i64 (decV bs)),.lit (.int .i64 (decE bs))],[],True)
  | 76,[.agg [.li es xs,.lit (.int .i64 now)]],[]=>some (.tup [.by_ (encS ⟨xs.map unT,now⟩),.lit (.int .i64 (validE ⟨xs.map unT,now⟩))],[],es=5∧xs=(xs.map unT).map ptA)
  | 145,[.by_ a,.by_ b],[]=>some (.lit (.bool (decide (a=b))),[],True)
  | _,_,_=>none
theorem sgU_ok:SgOK Tryz.prog sgU:=by
  intro f args ls r ls' vc h hvc;unfold sgU at h;split at h <;> cases h
  · rename_i z d p b;obtain ⟨⟨z0,z1⟩,⟨p0,p1⟩,hd⟩:=hvc;obtain ⟨n,rfl⟩:=Int.eq_ofNat_of_zero_le z0;obtain ⟨q,rfl⟩:=Int.eq_ofNat_of_zero_le p0;exact ⟨(fnOK Tryz.func143 (by decide) rfl),take_s d q b n (by omega) hd (by omega)⟩
  · rename_i z d p b;obtain ⟨⟨z0,z1⟩,⟨p0,p1⟩,hd⟩:=hvc;obtain ⟨n,rfl⟩:=Int.eq_ofNat_of_zero_le z0;obtain ⟨q,rfl⟩:=Int.eq_ofNat_of_zero_le p0;exact ⟨(fnOK Tryz.func142 (by decide) rfl),num_s d q b n (by omega) hd (by omega)⟩
  · exact ⟨(fnOK Tryz.func144 (by decide) rfl),gdec_s _⟩
  · obtain ⟨rfl,h2⟩:=hvc;refine ⟨(fnOK Tryz.func76 (by decide) rfl),?_⟩;rename_i xs now;have:=encode_s ⟨xs.map unT,now⟩;unfold stoA at this;rw [← h2] at this;exact this
  · exact ⟨(fnOK Tryz.func145 (by decide) rfl),same_s _ _⟩
theorem TrC_pts (l:List Pt):TrC (.li 5 (l.map ptA))=True:=eq_true (TrC.li fun x hx y hy=>by
  obtain ⟨p,_,rfl⟩:=List.mem_map.1 hx;simp only [ptA,AV.cl,List.mem_cons,List.not_mem_nil,or_false] at hy;rcases hy with rfl | rfl | rfl | rfl | rfl <;> exact Tr.lit _)
theorem take_pts (l:List Pt):List.take l.length (l.map ptA)=l.map ptA:=List.take_of_length_le (by simp)
theorem decode_s (d:List UInt8) (hd:d.length≤1000):FnS Tryz.prog 104 [.by_ d] [] (.tup [stoA (dcV d),.lit (.int .i64 (dcE d))]) []:=by
  have hs:=sgU_ok;have hf0:=fit_0 d;have l1:=tkP_le (d:=d) (p:=0) (b:=false) (n:=3) (Nat.zero_le _);unfold stoA;refine fo Tryz.func104 80 fun X hX=>?_;refine up 2 ?_;refine rK hs fun K hK=>?_;simp only [go_sem,sgU]
  refine eK ?_;obtain ⟨now,hnow⟩:∃ x,numV (tkL d 0 false 3)=x:=⟨_,rfl⟩;obtain ⟨q0,hq0⟩:∃ x,tkP d 0 false 3=x:=⟨_,rfl⟩;obtain ⟨b0,hb0⟩:∃ x,tkF d 0 false 3=x:=⟨_,rfl⟩;rw [hnow,hq0,hb0] at hf0 ⊢;rw [hq0] at l1;have l2:=tkP_le (d:=d) (p:=q0) (b:=b0) (n:=1) l1;have hn:=numV_rng (tkL_len d q0 b0 1);refine rK hs fun K hK=>?_;simp only [go_sem,sgU]
  refine eK ?_;obtain ⟨n,hnn⟩:∃ x,numV (tkL d q0 b0 1)=x:=⟨_,rfl⟩;obtain ⟨q1,hq1⟩:∃ x,tkP d q0 b0 1=x:=⟨_,rfl⟩;obtain ⟨b1,hb1⟩:∃ x,tkF d q0 b0 1=x:=⟨_,rfl⟩;rw [hnn,hq1,hb1] at hf0 ⊢;rw [hnn] at hn;rw [hq1] at l2;obtain ⟨n,rfl⟩:=Int.eq_ofNat_of_zero_le hn.1;refine up 2 ?_;refine WA.cond rfl (fun h=>?_) (fun h=>?_)
  ·
    have h:2<n:=by first | (simp only [Bool.and_eq_true,Bool.or_eq_true,Bool.not_eq_true',decide_eq_true_eq,decide_eq_false_iff_not,beq_iff_eq,bne_iff_ne,ne_eq,Bool.not_eq_eq_eq_not,Bool.not_true,Bool.not_false,beq_eq_false_iff_ne,bne_eq_false_iff_eq,Bool.and_eq_false_imp,Bool.or_eq_false_iff,Bool.cond_false_right,Bool.cond_true_left,Bool.cond_false_left,Bool.cond_true_right,gt_iff_lt,ge_iff_le,true_and] at h;first | exact h | omega) | omega | simpa using h
    have hno:∀ s,¬ okS d s:=fun s hs=>by
      have:=(hf0 s hs).2.2.2.2.2;have:=(valid_ok hs.1).1;omega
    rw [(dc_no hno).1,(dc_no hno).2];refine up 1 ?_;refine rE [.agg [.li 5 [],.lit (.int .i64 0)],.lit (.int .i64 1)] [] [.cell 2 37,.tmp 3] ?_;simp only [go_sem,sbT];all_goals exact agA
  ·
    refine up 1 ?_
    have h:n≤2:=by first | (simp only [Bool.and_eq_true,Bool.or_eq_true,Bool.not_eq_true',decide_eq_true_eq,decide_eq_false_iff_not,beq_iff_eq,bne_iff_ne,ne_eq,Bool.not_eq_eq_eq_not,Bool.not_true,Bool.not_false,beq_eq_false_iff_ne,bne_eq_false_iff_eq,Bool.and_eq_false_imp,Bool.or_eq_false_iff,Bool.cond_false_right,Bool.cond_true_left,Bool.cond_false_left,Bool.cond_true_right,gt_iff_lt,ge_iff_le,true_and] at h;first | exact h | omega) | omega | simpa using h
    refine ownC 2072 2 0 (.agg [.lit (.slice none 0 0),.lit (.int .i64 now)]) (.li 5 []) rfl rfl rfl (x':=.agg [.sl 2128 5 0 0,.lit (.int .i64 now)]) rfl ?_;refine up 3 ?_;refine WA.loopW hX (fun k=>if k=3000 then 2032 else if k=3008 then 2072 else if k=3016 then 2000 else if k=3024 then 2128 else k) ((fun (i:Nat × Nat × Bool × List Pt)=>⟨[(0,.by_ d),(2,.ptr 3016 0 0),(4,.ptr 3000 0 0),(5,.ptr 3008 0 0),(23,.lit (.int .i64 (n:Nat))),(24,.lit (.int .i64 (i.1:Nat)))],[(3000,⟨.li 3 [.agg [.by_ d,.lit (.int .i64 (i.2.1:Nat)),.lit (.bool i.2.2.1)]],0,false⟩),(3008,⟨.li 2 [.agg [.sl 3024 5 0 i.2.2.2.length,.lit (.int .i64 now)]],0,false⟩),(3016,⟨.li 2 [.agg [.lit (.slice none 0 0),.lit (.int .i64 0)]],0,false⟩),(3024,⟨.li 5 (i.2.2.2.map ptA),0,false⟩)],4000,80⟩:_→St)) (fun i=>n-i.1) (fun i=>i.1≤n∧i.2.2.2.length=i.1∧i.2.1≤d.length∧FitR d i.1 i.2.1 i.2.2.1 i.2.2.2 now n) (i0:=(0,q1,b1,[])) (⟨Nat.zero_le _,rfl,l2,hf0⟩) (by simp only [go_sem,Int.natCast_add,Int.natCast_zero] <;> (try and_intros) <;> (try omega)) fun ⟨i,p,b,l⟩ hi=>?_
    obtain ⟨hi,hl,hp,hf⟩:=hi;simp only at hi hl hp hf
    refine up 2 ?_;refine WA.cond rfl (fun h=>?_) (fun h=>?_)
    ·
      refine up 1 ?_
      have h:(i:Int)<(n:Nat):=by first | (simp only [Bool.and_eq_true,Bool.or_eq_true,Bool.not_eq_true',decide_eq_true_eq,decide_eq_false_iff_not,beq_iff_eq,bne_iff_ne,ne_eq,Bool.not_eq_eq_eq_not,Bool.not_true,Bool.not_false,beq_eq_false_iff_ne,bne_eq_false_iff_eq,Bool.and_eq_false_imp,Bool.or_eq_false_iff,Bool.cond_false_right,Bool.cond_true_left,Bool.cond_false_left,Bool.cond_true_right,gt_iff_lt,ge_iff_le,true_and] at h;first | exact h | omega) | omega | simpa using h
      have a1:=tkP_le (d:=d) (b:=b) (n:=1) hp;have m1:=numV_rng (tkL_len d p b 1);refine up 2 ?_;refine rK hs fun K hK=>?_;simp only [go_sem,sgU]
      refine eK ?_;have e0:rdPt d p b=rdPt d p b:=rfl;conv at e0=>rhs;unfold rdPt
      dsimp only at e0;have fs:=fit_succ hf (by omega);obtain ⟨b1,hb1⟩:∃ x,tkF d p b 1=x:=⟨_,rfl⟩;obtain ⟨p1,hp1⟩:∃ x,tkP d p b 1=x:=⟨_,rfl⟩;obtain ⟨k,hk⟩:∃ x,(numV (tkL d p b 1)).toNat=x:=⟨_,rfl⟩;rw [hp1] at a1;have a2:=tkP_le (d:=d) (b:=b1) (n:=k) a1;rw [hp1,hb1,hk] at e0 ⊢;obtain ⟨hh,hhh⟩:∃ x,tkL d p1 b1 k=x:=⟨_,rfl⟩;obtain ⟨b2,hb2⟩:∃ x,tkF d p1 b1 k=x:=⟨_,rfl⟩;obtain ⟨p2,hp2⟩:∃ x,tkP d p1 b1 k=x:=⟨_,rfl⟩;rw [hp2,hb2,hhh] at e0 ⊢;rw [hp2] at a2;have a3:=tkP_le (d:=d) (b:=b2) (n:=4) a2;refine rK hs fun K hK=>?_;simp only [go_sem,sgU]
      refine eK ?_;obtain ⟨kk,hkk⟩:∃ x,tkL d p2 b2 4=x:=⟨_,rfl⟩;obtain ⟨b3,hb3⟩:∃ x,tkF d p2 b2 4=x:=⟨_,rfl⟩;obtain ⟨p3,hp3⟩:∃ x,tkP d p2 b2 4=x:=⟨_,rfl⟩;rw [hp3,hb3,hkk] at e0 ⊢;rw [hp3] at a3;have a4:=tkP_le (d:=d) (b:=b3) (n:=2) a3;refine up 2 ?_;refine WA.cond rfl (fun h=>?_) (fun h=>?_)
      ·
        have h:¬ decE kk=0:=by first | (simp only [Bool.and_eq_true,Bool.or_eq_true,Bool.not_eq_true',decide_eq_true_eq,decide_eq_false_iff_not,beq_iff_eq,bne_iff_ne,ne_eq,Bool.not_eq_eq_eq_not,Bool.not_true,Bool.not_false,beq_eq_false_iff_ne,bne_eq_false_iff_eq,Bool.and_eq_false_imp,Bool.or_eq_false_iff,Bool.cond_false_right,Bool.cond_true_left,Bool.cond_false_left,Bool.cond_true_right,gt_iff_lt,ge_iff_le,true_and] at h;first | exact h | omega) | omega | simpa using h
        have hno:∀ s,¬ okS d s:=fun s hs=>by
          have:=fs.2 s hs;rw [e0] at this;exact h this
        rw [(dc_no hno).1,(dc_no hno).2];refine up 1 ?_;refine rE [.agg [.li 5 [],.lit (.int .i64 0)],.lit (.int .i64 1)] [] [.cell 2 37,.tmp 3] ?_;simp only [go_sem,sbT];all_goals exact agA
      ·
        refine up 1 ?_
        obtain ⟨rt,hrt⟩:∃ x,numV (tkL d p3 b3 2)=x:=⟨_,rfl⟩;obtain ⟨b4,hb4⟩:∃ x,tkF d p3 b3 2=x:=⟨_,rfl⟩;obtain ⟨p4,hp4⟩:∃ x,tkP d p3 b3 2=x:=⟨_,rfl⟩;rw [hp4,hb4,hrt] at e0;rw [hp4] at a4;have a5:=tkP_le (d:=d) (b:=b4) (n:=3) a4;obtain ⟨fr,hfr⟩:∃ x,numV (tkL d p4 b4 3)=x:=⟨_,rfl⟩;obtain ⟨b5,hb5⟩:∃ x,tkF d p4 b4 3=x:=⟨_,rfl⟩;obtain ⟨p5,hp5⟩:∃ x,tkP d p4 b4 3=x:=⟨_,rfl⟩;rw [hp5,hb5,hfr] at e0;rw [hp5] at a5;have a6:=tkP_le (d:=d) (b:=b5) (n:=3) a5;obtain ⟨tl,htl⟩:∃ x,numV (tkL d p5 b5 3)=x:=⟨_,rfl⟩;obtain ⟨b6,hb6⟩:∃ x,tkF d p5 b5 3=x:=⟨_,rfl⟩;obtain ⟨p6,hp6⟩:∃ x,tkP d p5 b5 3=x:=⟨_,rfl⟩;rw [hp6,hb6,htl] at e0;rw [hp6] at a6;refine rK hs fun K hK=>?_;simp only [go_sem,sgU,hrt,hb4,hp4,hfr,hb5,hp5,htl,hb6,hp6]
        refine eK ?_;refine up 1 ?_
        refine WA.regionE ty_ok hs fun K hK=>?_;simp only [go_sem,true_and]
        (repeat refine sdA ?_);have t9:=TrC_pts (l++[⟨hh,decV kk,rt,fr,tl⟩]);simp only [List.map_append,List.map_cons,List.map_nil,ptA] at t9;refine hK _ (roundE hX (fun k=>if k=3024 then 4304 else k) (j:=(i+1,p6,b6,l++[⟨hh,decV kk,rt,fr,tl⟩])) (⟨by omega,by simp [hl],a6,by rw [e0] at fs;exact fs.1⟩) (by first | omega | (dsimp only;omega) | (simp;omega)) (by simp only [go_sem,Int.natCast_add,t9,List.map_append,List.map_cons,List.map_nil,ptA] <;> (try and_intros) <;> (try omega)))
    ·
      refine up 1 ?_
      have h:¬ (i:Int)<(n:Nat):=by first | (simp only [Bool.and_eq_true,Bool.or_eq_true,Bool.not_eq_true',decide_eq_true_eq,decide_eq_false_iff_not,beq_iff_eq,bne_iff_ne,ne_eq,Bool.not_eq_eq_eq_not,Bool.not_true,Bool.not_false,beq_eq_false_iff_ne,bne_eq_false_iff_eq,Bool.and_eq_false_imp,Bool.or_eq_false_iff,Bool.cond_false_right,Bool.cond_true_left,Bool.cond_false_left,Bool.cond_true_right,gt_iff_lt,ge_iff_le,true_and] at h;first | exact h | omega) | omega | simpa using h
      have fe:=fit_end hf (by omega);refine up 1 ?_;refine rK hs fun K hK=>?_;simp only [go_sem,sgU,TrC_pts,take_pts,un_pts]
      refine eK ?_;refine rK hs fun K hK=>?_;simp only [go_sem,sgU]
      refine eK ?_;refine WA.cond rfl (fun h=>?_) (fun h=>?_)
      ·
        have hno:∀ s,¬ okS d s:=fun s hs=>by
          obtain ⟨rfl,rfl⟩:=fe s hs;simp [hs.1,hs.2] at h
        rw [(dc_no hno).1,(dc_no hno).2];refine up 1 ?_;refine rE [.agg [.li 5 [],.lit (.int .i64 0)],.lit (.int .i64 1)] [] [.cell 2 37,.tmp 3] ?_;simp only [go_sem,sbT];all_goals exact agA
      ·
        have hy:okS d ⟨l,now⟩:=by
          cases b
          · simp at h;exact h
          · simp at h
        rw [(dc_yes hy).1,(dc_yes hy).2];refine up 1 ?_
        refine rK hs fun K hK=>?_;simp only [go_sem,TrC_pts,take_pts]
        refine eK ?_;refine rE [.agg [.li 5 (l.map ptA),.lit (.int .i64 now)],.lit (.int .i64 0)] [] [.cell 2 37,.tmp 3] ?_;simp only [go_sem,sbT,TrC_pts,take_pts,Tr_pts];all_goals exact agA
end Go.Proofs.YtjjkfpbkmhfckaaGreatDoor.Ch
