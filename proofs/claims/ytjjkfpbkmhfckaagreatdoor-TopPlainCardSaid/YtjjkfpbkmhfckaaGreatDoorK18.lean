import Derived.Test.YtjjkfpbkmhfckaaGreatDoorAesX
import Derived.Test.YtjjkfpbkmhfckaaGreatDoorK06
set_option linter.unusedVariables false
set_option linter.unusedSimpArgs false
set_option maxHeartbeats 1000000
set_option maxRecDepth 10000
namespace Go.Proofs.YtjjkfpbkmhfckaaGreatDoor
open Go.RowKit Go.TravelBase Go.TravelAbs
def sbsO (t:List UInt8) (o:Nat) (b:List UInt8):List UInt8:=of16 fun i=>t.getD (o+(at_ b i).toNat) 0
theorem Tr_epb (l:List UInt8) (o:Nat):Tr (.ep (.agg (l.map bA)) o)=True:=eq_true (Tr.ep fun x hx=>by
  have hx:x∈l.map bA:=hx;obtain ⟨y,_,rfl⟩:=List.mem_map.1 hx;exact Tr.lit _)
attribute [go_sem] Tr_epb
theorem subst_s (b t:List UInt8) (o:Nat) (hb:b.length=16) (ht:o+256≤t.length):FnS Tryz.prog 158 [.ptr 0 0 0,.ep (.agg (t.map bA)) o] [.li 16 [.agg (b.map bA)]] (.tup []) [.li 16 [.agg ((sbsO t o b).map bA)]]:=by
  have hs:=sg0_ok;obtain ⟨f,hf⟩:∃ f,(fun i=>t.getD (o+(at_ b i).toNat) 0)=f:=⟨_,rfl⟩;have e0:stg f (at_ b) 0=b:=(stg_0 _ _).trans (of16_eta hb);have e16:stg f (at_ b) 16=sbsO t o b:=by rw [stg_16,← hf];rfl
  refine fo Tryz.func158 22 fun X hX=>?_;refine up 2 ?_;refine WA.loopW hX (fun k=>k) ((fun (i:Nat)=>⟨[(0,.ptr 0 0 0),(1,.ep (.agg (t.map bA)) o),(5,.lit (.int .i64 (i:Nat)))],[(0,⟨.li 16 [.agg ((stg f (at_ b) i).map bA)],0,true⟩)],4000,22⟩:_→St)) (fun i=>16-i) (fun i=>i≤16) (i0:=0) (Nat.zero_le _) (by simp only [go_sem,Int.natCast_add,e0,Int.natCast_zero] <;> (try and_intros) <;> (try omega)) fun i hi=>?_
  refine up 2 ?_;refine WA.cond rfl (fun h=>?_) (fun h=>?_)
  ·
    have h:i<16:=by first | (simp [true_and] at h;omega) | (simp [true_and] at h;exact h) | omega | simpa using h
    have hlt:=(at_ b i).toNat_lt;have g1:=stg_get f (at_ b) h;have g2:=get_bA (l:=t) (i:=o+(at_ b i).toNat) (by omega);have g3:=stg_put f (at_ b) h;have g4:t.getD (o+(at_ b i).toNat) 0=f i:=by rw [← hf]
    have g5:o+(at_ b i).toNat<t.length:=by omega
    refine up 4 ?_;refine WA.drawn2 mixed_ ty_ok hs (tbl:=[[],[],[],[],[],[3],[3,4,5],[3,4,5,6],[2],[2,3,4,5,6,7,8],[2,3,4,5,6,7,8,9],[0],[0,1,2,3,4,5,6,7,8,9,10,11],[0,1,2,3,4,5,6,7,8,9,10,11,12]]) (nb:=[7,10,13]) (hk:=[[],[],[],[],[],[],[],[],[],[],[],[],[],[]]) (by kernel_rfl) fun K hK=>?_;simp only [go_sem,List.length_map,stg_len,g1,g2,g3,g4,g5]
    refine eN ?_
    refine WA.regionE ty_ok hs fun K hK=>?_;simp only [go_sem,true_and]
    (repeat refine sdA ?_);refine hK _ (roundE hX (fun k=>k) (j:=i+1) (by omega) (by first | omega | (dsimp only;omega) | (simp;omega)) (by simp only [go_sem,Int.natCast_add,true_and] <;> (try and_intros) <;> (try omega)))
  ·
    have h:¬ i<16:=by first | (simp [true_and] at h;omega) | (simp [true_and] at h;exact h) | omega | simpa using h
    obtain rfl:i=16:=by omega
    rw [e16];with_reducible refine WA.exitX ?_
    repeat first | with_reducible refine WX.t ?_ | (with_reducible refine WX.n ?hne ?_;case hne=>rfl)
    refine WX.bn ?_;refine WN.retE ty_ok (xs:=[]) (ls':=[.li 16 [.agg ((sbsO t o b).map bA)]]) (rv:=[]) rfl hX (by simp) (fun _=>rfl) (fun _ _ h=>h) ?_;simp only [go_sem,sbT]
theorem rotate_s (b:List UInt8) (s:Nat) (hb:b.length=16) (hs3:s≤3):FnS Tryz.prog 159 [.ptr 0 0 0,.lit (.int .i64 (s:Nat))] [.li 16 [.agg (b.map bA)]] (.tup []) [.li 16 [.agg ((rot s b).map bA)]]:=by
  have hs:=sg0_ok;obtain ⟨f,hf⟩:∃ f,(fun i=>at_ b (rotI s i))=f:=⟨_,rfl⟩;have e0:stg f (at_ b) 0=b:=(stg_0 _ _).trans (of16_eta hb);have e16:stg f (at_ b) 16=rot s b:=by rw [stg_16,← hf];rfl
  have tk:List.take 16 (b.map bA)=b.map bA:=List.take_of_length_le (by simp [hb]);refine fo Tryz.func159 34 fun X hX=>?_;refine rK hs fun K hK=>?_;simp only [go_sem,List.length_map,hb,tk]
  refine eK ?_;refine up 2 ?_;refine WA.loopW hX (fun k=>if k=3000 then 2024 else k) ((fun (i:Nat)=>⟨[(0,.ptr 0 0 0),(1,.lit (.int .i64 (s:Nat))),(4,.ptr 3000 0 0),(11,.lit (.int .i64 (i:Nat)))],[(0,⟨.li 16 [.agg ((stg f (at_ b) i).map bA)],0,true⟩),(3000,⟨.li 16 [.agg (b.map bA)],0,false⟩)],4000,34⟩:_→St)) (fun i=>16-i) (fun i=>i≤16) (i0:=0) (Nat.zero_le _) (by simp only [go_sem,Int.natCast_add,e0,Int.natCast_zero] <;> (try and_intros) <;> (try omega)) fun i hi=>?_
  refine up 2 ?_;refine WA.cond rfl (fun h=>?_) (fun h=>?_)
  ·
    have h:i<16:=by first | (simp [true_and] at h;omega) | (simp [true_and] at h;exact h) | omega | simpa using h
    have hr:=rotI_lt s i;have q1:((i:Nat):Int).tdiv 4=((i / 4:Nat):Int):=rfl;have q2:((i:Nat):Int).tmod 4=((i % 4:Nat):Int):=rfl;have q3:4*(((i / 4:Nat):Int)+(s:Int)*((i % 4:Nat):Int)).tmod 4+((i % 4:Nat):Int)=((rotI s i:Nat):Int):=rfl;have q4:(s:Int)*((i % 4:Nat):Int)≤9∧0≤(s:Int)*((i % 4:Nat):Int):=by
      have h1:s*(i % 4)≤3*3:=Nat.mul_le_mul hs3 (by omega);have h2:(s:Int)*((i % 4:Nat):Int)=((s*(i % 4):Nat):Int):=rfl;omega
    have q5:0≤(((i / 4:Nat):Int)+(s:Int)*((i % 4:Nat):Int)).tmod 4∧(((i / 4:Nat):Int)+(s:Int)*((i % 4:Nat):Int)).tmod 4<4:=by
      have e:(((i / 4:Nat):Int)+(s:Int)*((i % 4:Nat):Int)).tmod 4=(((i / 4+s*(i % 4)) % 4:Nat):Int):=rfl;rw [e];omega
    have g2:=get_bA (l:=b) (i:=rotI s i) (by omega);have g3:=stg_put f (at_ b) h;have g4:b.getD (rotI s i) 0=f i:=by rw [← hf];rfl
    refine up 4 ?_;refine rK hs fun K hK=>?_;simp only [go_sem,q1,q2]
    refine eK ?_;refine WA.drawn2 mixed_ ty_ok hs (tbl:=[[],[],[],[],[],[3,4],[2,3,4,5],[2,3,4,5,6],[2,3,4,5,6,7],[],[2,3,4,5,6,7,8,9],[2,3,4,5,6,7,8,9,10],[2,3,4,5,6,7,8,9,10,11],[0],[0,1,2,3,4,5,6,7,8,9,10,11,12,13],[0,1,2,3,4,5,6,7,8,9,10,11,12,13,14]]) (nb:=[12,15]) (hk:=[[],[],[],[],[],[],[],[],[],[],[],[],[],[],[],[]]) (by kernel_rfl) fun K hK=>?_;simp only [go_sem,List.length_map,stg_len,hb,q3,g2,g3,g4,hr]
    refine eN ?_
    refine WA.regionE ty_ok hs fun K hK=>?_;simp only [go_sem,true_and]
    (repeat refine sdA ?_);refine hK _ (roundE hX (fun k=>k) (j:=i+1) (by omega) (by first | omega | (dsimp only;omega) | (simp;omega)) (by simp only [go_sem,Int.natCast_add,true_and] <;> (try and_intros) <;> (try omega)))
  ·
    have h:¬ i<16:=by first | (simp [true_and] at h;omega) | (simp [true_and] at h;exact h) | omega | simpa using h
    obtain rfl:i=16:=by omega
    rw [e16];with_reducible refine WA.exitX ?_
    repeat first | with_reducible refine WX.t ?_ | (with_reducible refine WX.n ?hne ?_;case hne=>rfl)
    refine WX.bn ?_;refine WN.retE ty_ok (xs:=[]) (ls':=[.li 16 [.agg ((rot s b).map bA)]]) (rv:=[]) rfl hX (by simp) (fun _=>rfl) (fun _ _ h=>h) ?_;simp only [go_sem,sbT]
def upd (g:Nat→UInt8) (i:Nat) (v:UInt8):Nat→UInt8:=fun j=>if j=i then v else g j
theorem stg_upd (f g:Nat→UInt8) {i:Nat} (u v:UInt8) (h:i<16):(stg f (upd g i u) i).set i v=stg f (upd g i v) i:=by
  refine List.ext_getElem (by rw [List.length_set,stg_len,stg_len]) fun j h1 h2=>?_;rw [stg_len] at h2;have e1:(stg f (upd g i v) i)[j]'(by rw [stg_len];exact h2)=if j<i then f j else upd g i v j:=by simp [stg,of16]
  have e2:(stg f (upd g i u) i)[j]'(by rw [stg_len];exact h2)=if j<i then f j else upd g i u j:=by simp [stg,of16]
  rw [List.getElem_set,e1,e2];by_cases hj:i=j
  · subst hj;rw [if_pos rfl,if_neg (Nat.lt_irrefl _),upd,if_pos rfl]
  · rw [if_neg hj];by_cases h3:j<i
    · rw [if_pos h3,if_pos h3]
    · rw [if_neg h3,if_neg h3,upd,upd,if_neg (fun e=>hj e.symm),if_neg (fun e=>hj e.symm)]
theorem upd_self (g:Nat→UInt8) (i:Nat):upd g i (g i)=g:=by
  funext j
  unfold upd;split
  · rename_i e;rw [e]
  · rfl
theorem stg_uput (f g:Nat→UInt8) {i:Nat} (u v:UInt8) (h:i<16):((stg f (upd g i u) i).map bA).take i++[AV.lit (.int .u8 (v.toNat:Int))]++((stg f (upd g i u) i).map bA).drop (i+1)=(stg f (upd g i v) i).map bA:=by
  rw [put_bA (by rw [stg_len];exact h),stg_upd f g u v h]
theorem stg_next (f g:Nat→UInt8) {i:Nat} (h:i<16):stg f (upd g i (f i)) i=stg f g (i+1):=by
  refine of16_congr fun j hj=>?_;by_cases h1:j<i
  · rw [if_pos h1,if_pos (by omega)]
  · rw [if_neg h1];by_cases h2:j=i
    · subst h2;rw [upd,if_pos rfl,if_pos (by omega)]
    · rw [upd,if_neg h2,if_neg (by omega)]
def sgMu:Sg:=fun f args ls =>
  match f,args,ls with
  | 210,[.lit (.int .u8 x)],[]=>some (.lit (.int .u8 ((dbl (UInt8.ofNat x.toNat)).toNat:Int)),[],x=((UInt8.ofNat x.toNat).toNat:Int))
  | 211,[.lit (.int .u8 x),.lit (.int .u8 y)],[]=>some (.lit (.int .u8 ((mulB (UInt8.ofNat x.toNat) (UInt8.ofNat y.toNat)).toNat:Int)),[],x=((UInt8.ofNat x.toNat).toNat:Int)∧y=((UInt8.ofNat y.toNat).toNat:Int))
  | _,_,_=>none
theorem sgMu_ok:SgOK Tryz.prog sgMu:=by
  intro f args ls r ls' vc h hvc;unfold sgMu at h;split at h <;> cases h
  · refine ⟨(fnOK Tryz.func210 (by decide) rfl),?_⟩;rename_i x;have:=dbl_s (UInt8.ofNat x.toNat);rw [← hvc] at this;exact this
  · refine ⟨(fnOK Tryz.func211 (by decide) rfl),?_⟩;rename_i x y;have:=mul_s (UInt8.ofNat x.toNat) (UInt8.ofNat y.toNat);rw [← hvc.1,← hvc.2] at this;exact this
theorem mix_s (b r:List UInt8) (hb:b.length=16) (hr:r.length=4):FnS Tryz.prog 160 [.ptr 0 0 0,.agg (r.map bA)] [.li 16 [.agg (b.map bA)]] (.tup []) [.li 16 [.agg ((mix r b).map bA)]]:=by
  have hs:=sgMu_ok;obtain ⟨f,hf⟩:∃ f,(fun i=>mxA r b i 4)=f:=⟨_,rfl⟩;have e0:stg f (at_ b) 0=b:=(stg_0 _ _).trans (of16_eta hb);have e16:stg f (at_ b) 16=mix r b:=by rw [stg_16,← hf];rfl
  have tk:List.take 16 (b.map bA)=b.map bA:=List.take_of_length_le (by simp [hb]);refine fo Tryz.func160 46 fun X hX=>?_;refine rK hs fun K hK=>?_;simp only [go_sem,List.length_map,hr]
  refine eK ?_;refine rK hs fun K hK=>?_;simp only [go_sem,List.length_map,hb,tk]
  refine eK ?_;refine up 2 ?_;refine WA.loopW hX (fun k=>if k=3000 then 2000 else if k=3008 then 2032 else k) ((fun (i:Nat)=>⟨[(0,.ptr 0 0 0),(3,.ptr 3000 0 0),(4,.ptr 3008 0 0),(10,.lit (.int .i64 (i:Nat)))],[(0,⟨.li 16 [.agg ((stg f (at_ b) i).map bA)],0,true⟩),(3000,⟨.li 4 [.agg (r.map bA)],0,false⟩),(3008,⟨.li 16 [.agg (b.map bA)],0,false⟩)],4000,46⟩:_→St)) (fun i=>16-i) (fun i=>i≤16) (i0:=0) (Nat.zero_le _) (by simp only [go_sem,Int.natCast_add,e0,Int.natCast_zero] <;> (try and_intros) <;> (try omega)) fun i hi=>?_
  refine up 2 ?_;refine WA.cond rfl (fun h=>?_) (fun h=>?_)
  ·
    have h:i<16:=by first | (simp [true_and] at h;omega) | (simp [true_and] at h;exact h) | omega | simpa using h
    have hi16:=h;have p0:((stg f (at_ b) i).map bA).take i++[AV.lit (.int .u8 0)]++((stg f (at_ b) i).map bA).drop (i+1)=(stg f (upd (at_ b) i (mxA r b i 0)) i).map bA:=by
      have:=stg_uput f (at_ b) (at_ b i) 0 h;rw [upd_self] at this;exact this
    refine up 4 ?_;refine rK hs fun K hK=>?_;simp only [go_sem,List.length_map,stg_len,p0]
    refine eK ?_;refine up 2 ?_;refine WA.loopW hX (fun k=>k) ((fun (k:Nat)=>⟨[(0,.ptr 0 0 0),(3,.ptr 3000 0 0),(4,.ptr 3008 0 0),(5,.lit (.int .i64 (i:Nat))),(10,.lit (.int .i64 (i:Nat))),(17,.lit (.int .i64 (k:Nat)))],[(0,⟨.li 16 [.agg ((stg f (upd (at_ b) i (mxA r b i k)) i).map bA)],0,true⟩),(3000,⟨.li 4 [.agg (r.map bA)],0,false⟩),(3008,⟨.li 16 [.agg (b.map bA)],0,false⟩)],4000,46⟩:_→St)) (fun k=>4-k) (fun k=>k≤4) (i0:=0) (Nat.zero_le _) (by simp only [go_sem,Int.natCast_add,Int.natCast_zero] <;> (try and_intros) <;> (try omega)) fun k hk=>?_
    refine up 2 ?_;refine WA.cond rfl (fun h=>?_) (fun h=>?_)
    ·
      have h:k<4:=by first | (simp [true_and] at h;omega) | (simp [true_and] at h;exact h) | omega | simpa using h
      have q1:((i:Nat):Int).tdiv 4=((i / 4:Nat):Int):=rfl;have q2:((i:Nat):Int).tmod 4=((i % 4:Nat):Int):=rfl;have q3:((i / 4:Nat):Int)*4+(k:Int)=((i / 4*4+k:Nat):Int):=rfl;have q4:((k:Int)-((i % 4:Nat):Int)+4).tmod 4=(((k+4-i % 4) % 4:Nat):Int):=by
        have:(k:Int)-((i % 4:Nat):Int)+4=((k+4-i % 4:Nat):Int):=by omega
        rw [this];rfl
      have q5:i / 4*4+k<16:=by omega
      have q6:(k+4-i % 4) % 4<4:=by omega
      have g1:=stg_get f (upd (at_ b) i (mxA r b i k)) hi16;have g0:upd (at_ b) i (mxA r b i k) i=mxA r b i k:=if_pos rfl;have g2:=get_bA (l:=b) (i:=i / 4*4+k) (by omega);have g3:=get_bA (l:=r) (i:=(k+4-i % 4) % 4) (by omega);have g4:mxA r b i k ^^^ mulB (b.getD (i / 4*4+k) 0) (r.getD ((k+4-i % 4) % 4) 0)=mxA r b i (k+1):=rfl;have g5:=stg_uput f (at_ b) (mxA r b i k) (mxA r b i (k+1)) hi16;refine up 4 ?_;refine WA.drawn2 mixed_ ty_ok hs (tbl:=[[],[],[0],[0,1,2],[0,1,2,3],[],[5],[5,6],[],[5,6,7,8],[5,6,7,8,9],[5,6,7,8,9,10],[],[],[13],[12,13,14],[12,13,14,15],[12,13,14,15,16],[12,13,14,15,16,17],[12,13,14,15,16,17,18],[5,6,7,8,9,10,11,12,13,14,15,16,17,18,19],[0,1,2,3,4,5,6,7,8,9,10,11,12,13,14,15,16,17,18,19,20],[0],[0,1,2,3,4,5,6,7,8,9,10,11,12,13,14,15,16,17,18,19,20,21,22],[0,1,2,3,4,5,6,7,8,9,10,11,12,13,14,15,16,17,18,19,20,21,22,23]]) (nb:=[4,11,19,20,24]) (hk:=[[],[],[],[],[],[],[],[],[],[],[],[],[],[],[],[],[],[],[],[],[],[],[],[],[]]) (by kernel_rfl) fun K hK=>?_;simp only [go_sem,sgMu,List.length_map,stg_len,hb,hr,q1,q2,q3,q4,q5,q6,g1,g0,g2,g3,g4,g5,xor_u8]
      refine eN ?_
      refine WA.regionE ty_ok hs fun K hK=>?_;simp only [go_sem,true_and]
      (repeat refine sdA ?_);refine hK _ (roundE hX (fun k=>k) (j:=k+1) (by omega) (by first | omega | (dsimp only;omega) | (simp;omega)) (by simp only [go_sem,Int.natCast_add,true_and] <;> (try and_intros) <;> (try omega)))
    ·
      have h:¬ k<4:=by first | (simp [true_and] at h;omega) | (simp [true_and] at h;exact h) | omega | simpa using h
      obtain rfl:k=4:=by omega
      have e4:stg f (upd (at_ b) i (mxA r b i 4)) i=stg f (at_ b) (i+1):=by
        rw [← stg_next f (at_ b) hi16,← hf]
      rw [e4];refine up 1 ?_
      refine WA.regionE ty_ok hs fun K hK=>?_;simp only [go_sem,true_and]
      (repeat refine sdA ?_);refine hK _ (roundE hX (fun k=>k) (j:=i+1) (by omega) (by first | omega | (dsimp only;omega) | (simp;omega)) (by simp only [go_sem,Int.natCast_add,true_and] <;> (try and_intros) <;> (try omega)))
  ·
    have h:¬ i<16:=by first | (simp [true_and] at h;omega) | (simp [true_and] at h;exact h) | omega | simpa using h
    obtain rfl:i=16:=by omega
    rw [e16];with_reducible refine WA.exitX ?_
    repeat first | with_reducible refine WX.t ?_ | (with_reducible refine WX.n ?hne ?_;case hne=>rfl)
    refine WX.bn ?_;refine WN.retE ty_ok (xs:=[]) (ls':=[.li 16 [.agg ((mix r b).map bA)]]) (rv:=[]) rfl hX (by simp) (fun _=>rfl) (fun _ _ h=>h) ?_;simp only [go_sem,sbT]
def sbP (y:UInt8) (i:Nat):UInt8:=(List.range i).foldl (fun s i=>s ^^^ ((y <<< UInt8.ofNat i) ||| (y >>> UInt8.ofNat (8-i)))) 99
theorem sbP_succ (y:UInt8) (i:Nat):sbP y (i+1)=sbP y i ^^^ ((y <<< UInt8.ofNat i) ||| (y >>> UInt8.ofNat (8-i))):=by simp [sbP,List.range_succ]
theorem sh_step (y:UInt8) {i:Nat} (h:i<5):bits .or .u8 (IntKind.u8.wrap ((y.toNat:Int)*2 ^ (if i≤8 then i else 8))) (((y.toNat:Int)).fdiv (2 ^ (if (8-(i:Int)).toNat≤8 then (8-(i:Int)).toNat else 8)))=(((y <<< UInt8.ofNat i) ||| (y >>> UInt8.ofNat (8-i))).toNat:Int):=by
  have key:∀ i:Fin 5,∀ y:Fin 256,bits .or .u8 (IntKind.u8.wrap ((y.val:Int)*2 ^ (if i.val≤8 then i.val else 8))) (((y.val:Int)).fdiv (2 ^ (if (8-(i.val:Int)).toNat≤8 then (8-(i.val:Int)).toNat else 8)))=(((UInt8.ofNat y.val <<< UInt8.ofNat i.val) ||| (UInt8.ofNat y.val >>> UInt8.ofNat (8-i.val))).toNat:Int):=by decide +kernel
  have:=key ⟨i,h⟩ ⟨y.toNat,y.toNat_lt⟩;simpa using this
def tbL (t:Tb):List UInt8:=t.fw++t.bk
theorem set_s (t:Tb) (x y:UInt8) (h1:t.fw.length=256) (h2:t.bk.length=256):FnS Tryz.prog 209 [.ptr 0 0 0,.lit (.int .u8 (x.toNat:Int)),.lit (.int .u8 (y.toNat:Int))] [.li 512 [.agg ((tbL t).map bA)]] (.tup []) [.li 512 [.agg ((tbL (setT t x y)).map bA)]]:=by
  have hs:=sg0_ok;have s0:(99:Int)=((sbP y 0).toNat:Int):=rfl;have hL:(tbL t).length=512:=by simp [tbL,h1,h2]
  refine fo Tryz.func209 34 fun X hX=>?_;refine up 4 ?_;refine WA.loopW hX (fun k=>k) ((fun (i:Nat)=>⟨[(0,.ptr 0 0 0),(1,.lit (.int .u8 (x.toNat:Int))),(2,.lit (.int .u8 (y.toNat:Int))),(6,.lit (.int .u8 ((sbP y i).toNat:Int))),(8,.lit (.int .i64 (i:Nat)))],[(0,⟨.li 512 [.agg ((tbL t).map bA)],0,true⟩)],4000,34⟩:_→St)) (fun i=>5-i) (fun i=>i≤5) (i0:=0) (Nat.zero_le _) (by simp only [go_sem,Int.natCast_add,Int.natCast_zero,← s0] <;> (try and_intros) <;> (try omega)) fun i hi=>?_
  refine up 2 ?_;refine WA.cond rfl (fun h=>?_) (fun h=>?_)
  ·
    have h:i<5:=by first | (simp [true_and] at h;omega) | (simp [true_and] at h;exact h) | omega | simpa using h
    refine up 4 ?_;refine WA.drawn mixed_ ty_ok hs (tbl:=[[],[],[],[1,2],[],[],[5],[4,5,6],[1,2,3,4,5,6,7],[0,1,2,3,4,5,6,7,8],[0,1,2,3,4,5,6,7,8,9]]) (nb:=[]) (by kernel_rfl) fun K hK=>?_;simp only [go_sem,sh_step y h,xor_u8,← sbP_succ]
    refine eN ?_
    refine WA.regionE ty_ok hs fun K hK=>?_;simp only [go_sem,true_and]
    (repeat refine sdA ?_);refine hK _ (roundE hX (fun k=>k) (j:=i+1) (by omega) (by first | omega | (dsimp only;omega) | (simp;omega)) (by simp only [go_sem,Int.natCast_add,true_and] <;> (try and_intros) <;> (try omega)))
  ·
    have h:¬ i<5:=by first | (simp [true_and] at h;omega) | (simp [true_and] at h;exact h) | omega | simpa using h
    obtain rfl:i=5:=by omega
    have e5:sbP y 5=sbox y:=rfl;rw [e5];have hx:=x.toNat_lt;have hq:=(sbox y).toNat_lt;have p1:=put_bA (l:=tbL t) (i:=x.toNat) (by omega) (sbox y);have p2:=put_bA (l:=(tbL t).set x.toNat (sbox y)) (i:=256+(sbox y).toNat) (by rw [List.length_set];omega) x;have p3:((tbL t).set x.toNat (sbox y)).set (256+(sbox y).toNat) x=tbL (setT t x y):=by
      unfold tbL setT;rw [List.set_append_left _ _ (by omega),List.set_append_right _ _ (by rw [List.length_set];omega),List.length_set,h1,Nat.add_sub_cancel_left]
    rw [p3] at p2;have hq2:256+(sbox y).toNat<512:=by omega
    have hx2:x.toNat<512:=by omega
    refine up 1 ?_
    refine WA.drawn2 mixed_ ty_ok hs (tbl:=[[],[],[],[],[],[],[0],[0,6],[0,1,4,6,7],[0,1,4,6,7,8],[2],[2,10],[0,1,2,3,4,5,6,7,8,9,10,11],[0,1,2,3,4,5,6,7,8,9,10,11,12]]) (nb:=[9,13]) (hk:=[[],[],[0],[0],[],[0],[],[],[],[],[0],[0],[],[]]) (by kernel_rfl) fun K hK=>?_;simp only [go_sem,List.length_map,List.length_set,hL,p1,p2,hq2,hx2]
    (repeat refine sdA ?_);refine hK _ (WN.mk ?_);clear hK K;repeat with_reducible refine WN.b ?_
    refine WN.retE ty_ok (xs:=[]) (ls':=[.li 512 [.agg ((tbL (setT t x y)).map bA)]]) (rv:=[]) rfl hX (by simp) (fun _=>rfl) (fun _ _ h=>h) ?_;simp only [go_sem,sbT]
def sgSt:Sg:=fun f args ls =>
  match f,args,ls with
  | 210,[.lit (.int .u8 x)],[]=>some (.lit (.int .u8 ((dbl (UInt8.ofNat x.toNat)).toNat:Int)),[],x=((UInt8.ofNat x.toNat).toNat:Int))
  | 211,[.lit (.int .u8 x),.lit (.int .u8 y)],[]=>some (.lit (.int .u8 ((mulB (UInt8.ofNat x.toNat) (UInt8.ofNat y.toNat)).toNat:Int)),[],x=((UInt8.ofNat x.toNat).toNat:Int)∧y=((UInt8.ofNat y.toNat).toNat:Int))
  | 209,[.ptr 0 0 0,.lit (.int .u8 x),.lit (.int .u8 y)],[.li 512 [.agg l]]=>some (.tup [],[.li 512 [.agg ((tbL (setT ⟨(l.take 256).map toB,(l.drop 256).map toB⟩ (UInt8.ofNat x.toNat) (UInt8.ofNat y.toNat))).map bA)]],(x=((UInt8.ofNat x.toNat).toNat:Int)∧y=((UInt8.ofNat y.toNat).toNat:Int))∧l=(l.map toB).map bA∧l.length=512)
  | _,_,_=>none
theorem sgSt_ok:SgOK Tryz.prog sgSt:=by
  intro f args ls r ls' vc h hvc;unfold sgSt at h;split at h <;> cases h
  · refine ⟨(fnOK Tryz.func210 (by decide) rfl),?_⟩;rename_i x;have:=dbl_s (UInt8.ofNat x.toNat);rw [← hvc] at this;exact this
  · refine ⟨(fnOK Tryz.func211 (by decide) rfl),?_⟩;rename_i x y;have:=mul_s (UInt8.ofNat x.toNat) (UInt8.ofNat y.toNat);rw [← hvc.1,← hvc.2] at this;exact this
  · obtain ⟨⟨h1,h2⟩,h3,h4⟩:=hvc;refine ⟨(fnOK Tryz.func209 (by decide) rfl),?_⟩;rename_i x y l;have:=set_s ⟨(l.take 256).map toB,(l.drop 256).map toB⟩ (UInt8.ofNat x.toNat) (UInt8.ofNat y.toNat) (by simp [h4]) (by simp [h4]);have e:tbL ⟨(l.take 256).map toB,(l.drop 256).map toB⟩=l.map toB:=by
      unfold tbL;rw [← List.map_append,List.take_append_drop]
    rw [← h1,← h2,e,← h3] at this;exact this
theorem toB_bA (l:List UInt8):(l.map bA).map toB=l:=by
  rw [List.map_map];exact (List.map_congr_left fun x _=>show toB (bA x)=x by simp [toB,bA]).trans (List.map_id _)
theorem tb_un (t:Tb) (h1:t.fw.length=256):(⟨(((tbL t).map bA).take 256).map toB,(((tbL t).map bA).drop 256).map toB⟩:Tb)=t:=by
  have e1:((tbL t).map bA).take 256=t.fw.map bA:=by
    unfold tbL;rw [List.map_append,List.take_append_of_le_length (by simp [h1]),List.take_of_length_le (by simp [h1])]
  have e2:((tbL t).map bA).drop 256=t.bk.map bA:=by
    unfold tbL;rw [List.map_append,List.drop_append_of_le_length (by simp [h1]),List.drop_of_length_le (by simp [h1]),List.nil_append]
  rw [e1,e2,toB_bA,toB_bA]
theorem tbL_len {t:Tb} (h:t.fw.length=256∧t.bk.length=256):(tbL t).length=512:=by simp [tbL,h.1,h.2]
theorem tables_s:FnS Tryz.prog 155 [] [] (.fr (.opt true (.li 512 [.agg ((tbL Tab).map bA)]))) []:=by
  have hs:=sgSt_ok;have r0:List.replicate 512 (AV.lit (.int .u8 0))=(tbL (tbS 0).1).map bA:=by
    show _=(List.replicate 256 (0:UInt8)++List.replicate 256 (0:UInt8)).map bA;rw [List.replicate_append_replicate,List.map_replicate];rfl
  have x0:(((tbS 0).2.1).toNat:Int)=1:=rfl;have y0:(((tbS 0).2.2).toNat:Int)=1:=rfl;refine fo Tryz.func155 22 fun X hX=>?_;refine up 1 ?_;have hL0:=tbL_len (tbS_len 0);refine rK hs fun K hK=>?_;simp only [go_sem,r0,hL0]
  refine eK ?_;refine up 4 ?_;refine WA.loopW hX (fun k=>if k=3000 then 2016 else k) ((fun (i:Nat)=>⟨[(1,.ptr 3000 0 0),(2,.lit (.int .u8 (((tbS i).2.1).toNat:Int))),(3,.lit (.int .u8 (((tbS i).2.2).toNat:Int))),(6,.lit (.int .i64 (i:Nat)))],[(3000,⟨.li 512 [.agg ((tbL (tbS i).1).map bA)],0,false⟩)],4000,22⟩:_→St)) (fun i=>255-i) (fun i=>i≤255) (i0:=0) (Nat.zero_le _) (by simp only [go_sem,Int.natCast_add,Int.natCast_zero,x0,y0] <;> (try and_intros) <;> (try omega)) fun i hi=>?_
  have hl:=tbS_len i;have hL:=tbL_len hl;have hu:=tb_un (tbS i).1 hl.1;have hb:=toB_bA (tbL (tbS i).1);have e0:((UInt8.toNat 0:Nat):Int)=0:=rfl;have e246:((UInt8.toNat 246:Nat):Int)=246:=rfl;have n1:setT (tbS i).1 (tbS i).2.1 (tbS i).2.2=(tbS (i+1)).1:=rfl;have n2:(tbS i).2.1 ^^^ dbl (tbS i).2.1=(tbS (i+1)).2.1:=rfl;have n3:mulB (tbS i).2.2 246=(tbS (i+1)).2.2:=rfl;refine up 2 ?_;refine WA.cond rfl (fun h=>?_) (fun h=>?_)
  ·
    have h:i<255:=by first | (simp [true_and] at h;omega) | (simp [true_and] at h;exact h) | omega | simpa using h
    refine up 3 ?_;refine rK hs fun K hK=>?_;simp only [go_sem,sgSt,hu,hb,hL,List.length_map,n1]
    refine eK ?_;refine WA.regionE ty_ok hs fun K hK=>?_;simp only [go_sem,sgSt,n2,n3,xor_u8,e246]
    refine eN ?_
    refine WA.regionE ty_ok hs fun K hK=>?_;simp only [go_sem,true_and]
    (repeat refine sdA ?_);refine hK _ (roundE hX (fun k=>k) (j:=i+1) (by omega) (by first | omega | (dsimp only;omega) | (simp;omega)) (by simp only [go_sem,Int.natCast_add,true_and] <;> (try and_intros) <;> (try omega)))
  ·
    have h:¬ i<255:=by first | (simp [true_and] at h;omega) | (simp [true_and] at h;exact h) | omega | simpa using h
    obtain rfl:i=255:=by omega
    have nT:setT (tbS 255).1 0 0=Tab:=rfl;refine up 1 ?_
    refine rK hs fun K hK=>?_;simp only [go_sem,sgSt,hu,hb,hL,List.length_map,nT,e0]
    refine eK ?_;refine up 1 ?_;refine rE [.fr (.opt true (.li 512 [.agg ((tbL Tab).map bA)]))] [] [.tmp 0] ?_;simp only [go_sem,sbT];all_goals exact agA
def kx (i:Nat) (w0 E0:List UInt8):Nat→List UInt8 × List UInt8
  | 0=>(w0,E0)
  | k+1=>((kx i w0 E0 k).1.set (k % 4) ((kx i w0 E0 k).1.getD (k % 4) 0 ^^^ (kx i w0 E0 k).2.getD (i*16+k) 0),(kx i w0 E0 k).2.set ((i+1)*16+k) ((kx i w0 E0 k).1.getD (k % 4) 0 ^^^ (kx i w0 E0 k).2.getD (i*16+k) 0))
theorem kx_len (i:Nat) (w0 E0:List UInt8):∀ k,(kx i w0 E0 k).1.length=w0.length∧(kx i w0 E0 k).2.length=E0.length
  | 0=>⟨rfl,rfl⟩
  | k+1=>by
    have:=kx_len i w0 E0 k;simp only [kx,List.length_set,this.1,this.2,and_self]
def w4 (t E:List UInt8) (i:Nat) (c:UInt8):List UInt8:=[t.getD (E.getD (i*16+13) 0).toNat 0 ^^^ c,t.getD (E.getD (i*16+14) 0).toNat 0,t.getD (E.getD (i*16+15) 0).toNat 0,t.getD (E.getD (i*16+12) 0).toNat 0]
def zs:List UInt8:=List.replicate 176 0
theorem zs_len:zs.length=176:=List.length_replicate
theorem zs_eq:List.replicate 176 (AV.lit (.int .u8 0))=zs.map bA:=by
  unfold zs;rw [List.map_replicate];rfl
def exR (t key:List UInt8):Nat→List UInt8 × UInt8
  | 0=>(key++List.replicate 160 0,1)
  | i+1=>((kx i (w4 t (exR t key i).1 i (exR t key i).2) (exR t key i).1 16).2,dbl (exR t key i).2)
theorem exR_len (t:List UInt8) {key:List UInt8} (h:key.length=16):∀ i,(exR t key i).1.length=176
  | 0=>by simp only [exR,List.length_append,List.length_replicate,h]
  | i+1=>by
    have:=exR_len t h i;simp only [exR,(kx_len _ _ _ _).2,this]
def expK (t key:List UInt8):List UInt8:=(exR t key 10).1
theorem cvL_bA (H:List (Nat × Blk)):∀ l:List UInt8,cvL H (l.map bA)=some (l.map bA,[],True)
  | []=>rfl
  | x::r=>by
    have h1:cv1 H (bA x)=some (bA x,[],True):=by
      have:Tr (bA x)=True:=eq_true (Tr.lit _);show some (bA x,[],Tr (bA x))=_;rw [this]
    have h2:=cvL_bA H r;simp only [List.map_cons,cvL,h1,List.nil_append,h2,and_self]
theorem sbL_bA:∀ l:List UInt8,sbL (l.map bA) (l.map bA)=True
  | []=>by simp [sbL]
  | x::r=>by
    have h1:=sbL_bA r;have h2:sbT (bA x) (bA x)=True:=by simp [bA,sbT]
    simp only [List.map_cons,sbL,h1,h2,and_self]
theorem ex_zero (t key:List UInt8):List.map bA key++List.drop 16 (List.map bA zs)=(exR t key 0).1.map bA:=by
  have:List.drop 16 (List.map bA zs)=(List.replicate 160 (0:UInt8)).map bA:=by
    rw [← List.map_drop];unfold zs;rw [List.drop_replicate]
  rw [this,← List.map_append];rfl
theorem expand_s (t key:List UInt8) (ht:t.length=512) (hk:key.length=16):FnS Tryz.prog 156 [.ep (.agg (t.map bA)) 0,.by_ key] [] (.agg ((expK t key).map bA)) []:=by
  have hs:=sgMu_ok;have c0:(1:Int)=((exR t key 0).2.toNat:Int):=rfl;have e0:=ex_zero t key;refine fo Tryz.func156 87 fun X hX=>?_;refine rK hs fun K hK=>?_;simp only [go_sem,zs_eq,zs_len];refine And.intro (by rw [List.all_eq_true];intro x hx;rw [List.eq_of_mem_replicate hx]) ?_;refine hK _ ?_;clear hK K;refine rK hs fun K hK=>?_;simp only [go_sem,zs_eq,zs_len];refine And.intro (by rw [List.all_eq_true];intro x hx;rw [List.eq_of_mem_replicate hx]) ?_;refine hK _ ?_;clear hK K;refine rK hs fun K hK=>?_;simp only [go_sem,hk,zs_len,List.length_map]
  refine eK ?_;refine up 4 ?_;refine WA.loopW hX (fun k=>if k=3000 then 2000 else if k=3008 then 2008 else k) ((fun (i:Nat)=>⟨[(0,.ep (.agg (t.map bA)) 0),(4,.ptr 3000 0 0),(5,.ptr 3008 0 0),(6,.lit (.int .u8 ((exR t key i).2.toNat:Int))),(7,.lit (.int .i64 ((i:Nat)+1)))],[(3000,⟨.li 176 [.agg (zs.map bA)],0,false⟩),(3008,⟨.li 176 [.agg ((exR t key i).1.map bA)],0,false⟩)],4000,87⟩:_→St)) (fun i=>10-i) (fun i=>i≤10) (i0:=0) (Nat.zero_le _) (by simp only [go_sem,Int.natCast_add,e0,Int.natCast_zero,← c0] <;> (try and_intros) <;> (try omega)) fun i hi=>?_
  have hE:=exR_len t hk i;obtain ⟨E,hEE⟩:∃ E,(exR t key i).1=E:=⟨_,rfl⟩;obtain ⟨c,hc⟩:∃ c,(exR t key i).2=c:=⟨_,rfl⟩;simp only [hEE,hc] at hE ⊢;refine up 2 ?_;refine WA.cond rfl (fun h=>?_) (fun h=>?_)
  ·
    have h:i<10:=by first | (simp [true_and] at h;omega) | (simp [true_and] at h;exact h) | omega | simpa using h
    refine up 3 ?_;have q1:((i:Nat):Int)+1-1=((i:Nat):Int):=by omega
    have gE:∀ j,j<176 → ∀ z,(E.map bA).getD j z = .lit (.int .u8 ((E.getD j 0).toNat:Int)):=fun j hj=>get_bA (by omega);have gT:∀ x:UInt8,∀ z,(t.map bA).getD x.toNat z = .lit (.int .u8 ((t.getD x.toNat 0).toNat:Int)):=fun x=>get_bA (by have:=x.toNat_lt;omega);have g12:=gE (i*16+12) (by omega);have g13:=gE (i*16+13) (by omega);have g14:=gE (i*16+14) (by omega);have g15:=gE (i*16+15) (by omega);have b0:∀ x:UInt8,x.toNat<256:=fun x=>x.toNat_lt;have b1:∀ x:UInt8,x.toNat<512:=fun x=>by have:=x.toNat_lt;omega
    have gw:[AV.lit (.int .u8 ((t.getD (E.getD (i*16+13) 0).toNat 0 ^^^ c).toNat:Int)),.lit (.int .u8 ((t.getD (E.getD (i*16+14) 0).toNat 0).toNat:Int)),.lit (.int .u8 ((t.getD (E.getD (i*16+15) 0).toNat 0).toNat:Int)),.lit (.int .u8 ((t.getD (E.getD (i*16+12) 0).toNat 0).toNat:Int))]=(w4 t E i c).map bA:=rfl;refine rK hs fun K hK=>?_;simp only [go_sem,hE,List.length_map,q1]
    refine eK ?_;have w4l:(w4 t E i c).length=4:=rfl;refine WA.drawnH mixed_ ty_ok hs (tbl:=[[],[],[1],[1,2],[1,2,3],[0],[0,5],[0,1,2,3,4,5,6],[0,1,2,3,4,5,6,7],[],[0,1,2,3,4,5,6,7,8,9],[],[],[12],[12,13],[12,13,14],[11],[11,16],[11,12,13,14,15,16,17],[11,12,13,14,15,16,17,18],[],[],[21],[21,22],[21,22,23],[20],[20,25],[20,21,22,23,24,25,26],[20,21,22,23,24,25,26,27],[],[],[30],[30,31],[30,31,32],[29],[29,34],[29,30,31,32,33,34,35],[29,30,31,32,33,34,35,36],[0,1,2,3,4,5,6,7,8,9,10,11,12,13,14,15,16,17,18,19,20,21,22,23,24,25,26,27,28,29,30,31,32,33,34,35,36,37],[],[0,1,2,3,4,5,6,7,8,9,10,11,12,13,14,15,16,17,18,19,20,21,22,23,24,25,26,27,28,29,30,31,32,33,34,35,36,37,38,39]]) (nb:=[4,8,15,19,24,28,33,37,40]) (hk:=[[],[],[],[],[],[],[],[],[],[],[],[],[],[],[],[],[],[],[],[],[],[],[],[],[],[],[],[],[],[],[],[],[],[],[],[],[],[],[],[],[]]) (by kernel_rfl) fun K hK=>?_;simp only [go_sem,hE,ht,w4l,List.length_map,g12,g13,g14,g15,gT,b0,b1,xor_u8,gw,List.drop_succ_cons,List.drop_zero,List.append_nil]
    refine eK ?_;obtain ⟨w,hw⟩:∃ w,w4 t E i c=w:=⟨_,rfl⟩;rw [hw] at w4l;simp only [hw];clear gw g12 g13 g14 g15;refine rK hs fun K hK=>?_;simp only [go_sem,sgMu,List.length_map]
    refine eK ?_;refine up 2 ?_;have hk0:kx i w E 0=(w,E):=rfl;refine WA.loopW hX (fun k=>if k=3016 then 4360 else k) ((fun (k:Nat)=>⟨[(0,.ep (.agg (t.map bA)) 0),(4,.ptr 3000 0 0),(5,.ptr 3008 0 0),(6,.lit (.int .u8 ((dbl c).toNat:Int))),(7,.lit (.int .i64 ((i:Nat)+1))),(8,.ptr 3008 0 (i*16)),(9,.ptr 3016 0 0),(63,.lit (.int .i64 (k:Nat)))],[(3000,⟨.li 176 [.agg (zs.map bA)],0,false⟩),(3008,⟨.li 176 [.agg ((kx i w E k).2.map bA)],0,false⟩),(3016,⟨.li 4 [.agg ((kx i w E k).1.map bA)],0,false⟩)],4000,87⟩:_→St)) (fun k=>16-k) (fun k=>k≤16) (i0:=0) (Nat.zero_le _) (by simp only [go_sem,Int.natCast_add,hk0,Int.natCast_zero] <;> (try and_intros) <;> (try omega)) fun k hk=>?_
    have hL1:(kx i w E k).1.length=4:=(kx_len i w E k).1.trans w4l;have hL2:(kx i w E k).2.length=176:=(kx_len i w E k).2.trans hE;refine up 2 ?_;refine WA.cond rfl (fun h'=>?_) (fun h'=>?_)
    ·
      have h':k<16:=by first | (simp [true_and] at h';omega) | (simp [true_and] at h';exact h') | omega | simpa using h'
      have q2:((k:Nat):Int).tmod 4=((k % 4:Nat):Int):=rfl;have k4:k % 4<4:=Nat.mod_lt _ (by omega);obtain ⟨a,ha⟩:∃ a,kx i w E k=a:=⟨_,rfl⟩;have hn:kx i w E (k+1)=(a.1.set (k % 4) (a.1.getD (k % 4) 0 ^^^ a.2.getD (i*16+k) 0),a.2.set ((i+1)*16+k) (a.1.getD (k % 4) 0 ^^^ a.2.getD (i*16+k) 0)):=by rw [← ha];rfl
      simp only [ha] at hL1 hL2 ⊢;have u1:=get_bA (l:=a.1) (i:=k % 4) (by omega);have u2:=get_bA (l:=a.2) (i:=i*16+k) (by omega);have u3:=put_bA (l:=a.1) (i:=k % 4) (by omega) (a.1.getD (k % 4) 0 ^^^ a.2.getD (i*16+k) 0);have u4:=put_bA (l:=a.2) (i:=(i+1)*16+k) (by omega) (a.1.getD (k % 4) 0 ^^^ a.2.getD (i*16+k) 0);have u5:=get_bA (l:=a.1.set (k % 4) (a.1.getD (k % 4) 0 ^^^ a.2.getD (i*16+k) 0)) (i:=k % 4) (by rw [List.length_set];omega);have u6:(a.1.set (k % 4) (a.1.getD (k % 4) 0 ^^^ a.2.getD (i*16+k) 0)).getD (k % 4) 0=a.1.getD (k % 4) 0 ^^^ a.2.getD (i*16+k) 0:=by
        simp only [List.getD,List.getElem?_set,hL1,k4,if_true,Option.getD_some]
      refine up 4 ?_;refine WA.drawnH mixed_ ty_ok hs (tbl:=[[],[0],[0,1],[0,1,2],[],[],[4],[4,5,6],[4,5,6,7],[0,1,2,3,4,5,6,7,8],[0,1,2,3,4,5,6,7,8,9],[0,1,2,3,4,5,6,7,8,9,10]]) (nb:=[3,8,11]) (hk:=[[],[],[],[],[],[],[],[],[],[],[],[]]) (by kernel_rfl) fun K hK=>?_;simp only [go_sem,List.length_map,hL1,hL2,q2,k4,u1,u2,u3,xor_u8]
      refine eK ?_;have q7:(((i:Nat):Int)+1).toNat=i+1:=by omega
      refine WA.drawn2 mixed_ ty_ok hs (tbl:=[[],[],[],[2],[2,3],[2,3,4],[0],[0,1,2,3,4,5,6],[0,1,2,3,4,5,6,7]]) (nb:=[5,8]) (hk:=[[],[],[],[],[],[],[],[],[]]) (by kernel_rfl) fun K hK=>?_;simp only [go_sem,List.length_map,List.length_set,hL1,hL2,q2,q7,k4,u5,u6,u4]
      refine eN ?_
      refine WA.regionE ty_ok hs fun K hK=>?_;simp only [go_sem,true_and]
      (repeat refine sdA ?_);refine hK _ (roundE hX (fun k=>k) (j:=k+1) (by omega) (by first | omega | (dsimp only;omega) | (simp;omega)) (by simp only [go_sem,Int.natCast_add,hn] <;> (try and_intros) <;> (try omega)))
    ·
      have h':¬ k<16:=by first | (simp [true_and] at h';omega) | (simp [true_and] at h';exact h') | omega | simpa using h'
      obtain rfl:k=16:=by omega
      have n1:(kx i w E 16).2=(exR t key (i+1)).1:=by rw [← hw,← hEE,← hc];rfl
      have n2:dbl c=(exR t key (i+1)).2:=by rw [← hc];rfl
      rw [n1,n2];with_reducible refine WA.exitX ?_
      repeat first | with_reducible refine WX.t ?_ | (with_reducible refine WX.n ?hne ?_;case hne=>rfl)
      refine WX.bn ?_;with_reducible repeat first | refine WN.t ?_ | refine WN.b ?_
      refine WA.regionE ty_ok hs fun K hK=>?_;simp only [go_sem,true_and]
      (repeat refine sdA ?_);refine hK _ (roundE hX (fun k=>k) (j:=i+1) (by omega) (by first | omega | (dsimp only;omega) | (simp;omega)) (by simp only [go_sem,Int.natCast_add,true_and] <;> (try and_intros) <;> (try omega)))
  ·
    have h:¬ i<10:=by first | (simp [true_and] at h;omega) | (simp [true_and] at h;exact h) | omega | simpa using h
    obtain rfl:i=10:=by omega
    have e10:E=expK t key:=hEE.symm;rw [e10] at hE ⊢;have tk:List.take 176 ((expK t key).map bA)=(expK t key).map bA:=List.take_of_length_le (by simp [hE]);have dz:List.drop 176 (zs.map bA)=[]:=List.drop_eq_nil_of_le (by rw [List.length_map,zs_len];exact Nat.le_refl _);refine up 1 ?_
    refine rK hs fun K hK=>?_;simp only [go_sem,List.length_map,hE,tk,dz,List.append_nil]
    refine eK ?_;refine rE [.agg ((expK t key).map bA)] [] [.cell 4 239] ?_;simp only [go_sem,sbT,cvL_bA,sbL_bA,tk,hE,Nat.le_refl]
section
attribute [local irreducible] Tab
def sgEx:Sg:=fun f args ls =>
  match f,args,ls with
  | 155,[],[]=>some (.fr (.opt true (.li 512 [.agg ((tbL Tab).map bA)])),[],True)
  | 156,[.ep (.agg t) 0,.by_ k],[]=>some (.agg ((expK (t.map toB) k).map bA),[],t=(t.map toB).map bA∧t.length=512∧k.length=16)
  | _,_,_=>none
theorem sgEx_ok:SgOK Tryz.prog sgEx:=by
  intro f args ls r ls' vc h hvc;unfold sgEx at h;split at h <;> cases h
  · exact ⟨(fnOK Tryz.func155 (by decide) rfl),tables_s⟩
  · refine ⟨(fnOK Tryz.func156 (by decide) rfl),?_⟩;rename_i t k;have:=expand_s (t.map toB) k (by rw [List.length_map];exact hvc.2.1) hvc.2.2;rw [← hvc.1] at this;exact this
def tbAV:AV:=.agg ((tbL Tab).map bA)
def cphA (key:List UInt8):AV:=.agg (.ep tbAV 0::(expK (tbL Tab) key).map bA)
theorem Tr_bA (l:List UInt8):∀ y∈l.map bA,Tr y:=fun y hy=>by
  obtain ⟨z,_,rfl⟩:=List.mem_map.1 hy;exact Tr.lit _
theorem Tr_ebA (l:List UInt8) (o:Nat):Tr (.ep (.agg (l.map bA)) o):=Tr.ep (Tr_bA l)
theorem Tr_tb (o:Nat):Tr (.ep tbAV o):=by
  unfold tbAV;exact Tr_ebA _ _
theorem TrC_cph (n:Nat) (E:List UInt8):TrC (.li n [.agg (.ep tbAV 0::E.map bA)])=True:=eq_true fun i hi y hy=>by
  have:i=0:=by simp only [cN,List.length_cons,List.length_nil] at hi;omega
  subst this;have hy:y∈AV.ep tbAV 0::E.map bA:=hy;rcases List.mem_cons.1 hy with rfl | hy
  · exact Tr_tb 0
  · exact Tr_bA E y hy
theorem Tr_cph (key:List UInt8) (o:Nat):Tr (.ep (cphA key) o)=True:=eq_true (Tr.ep fun y hy=>by
  have hy:y∈AV.ep tbAV 0::(expK (tbL Tab) key).map bA:=hy;rcases List.mem_cons.1 hy with rfl | hy
  · exact Tr_tb 0
  · exact Tr_bA _ y hy)
theorem ready_s (key:List UInt8) (hk:key.length=16):FnS Tryz.prog 111 [.by_ key] [] (.ep (cphA key) 0) []:=by
  have hs:=sgEx_ok;refine fo Tryz.func111 14 fun X hX=>?_;refine up 2 ?_;refine rK hs fun K hK=>?_;simp only [go_sem,hk]
  refine eK ?_;refine WA.cond rfl (fun h=>absurd h (by simp)) (fun h=>?_);refine up 1 ?_
  refine rK hs fun K hK=>?_;simp only [go_sem,sgEx]
  refine eK ?_;refine WA.normP 3 fun K hK=>?_;simp only [go_sem];refine hK _ ?_;clear hK K;have hb:=toB_bA (tbL Tab);have hl:(tbL Tab).length=512:=tbL_len Tab_len;have le:(expK (tbL Tab) key).length=176:=exR_len _ hk 10;have dz:∀ a z:AV,List.drop 177 (a::List.replicate 176 z)=[]:=fun a z=>List.drop_eq_nil_of_le (by rw [List.length_cons,List.length_replicate];exact Nat.le_refl _);obtain ⟨E,hE⟩:∃ E,expK (tbL Tab) key=E:=⟨_,rfl⟩;have hc:cphA key = .agg (.ep tbAV 0::E.map bA):=by rw [← hE];rfl
  have hT:AV.agg ((tbL Tab).map bA)=tbAV:=rfl;rw [hE] at le;rw [hc];refine rK hs fun K hK=>?_;simp only [go_sem,sgEx,hb,hl,hk,hE,le,dz,List.length_map,List.append_nil,one_bA]
  refine eK ?_;simp only [hT];have tE:=TrC_cph 177 E;have tP:=Tr_cph key 0;rw [hc] at tP;refine WA.normP 2 fun K hK=>?_;simp only [go_sem,tE];refine hK _ ?_;clear hK K;refine rE [.ep (.agg (.ep tbAV 0::E.map bA)) 0] [] [.tmp 2] ?_;simp only [go_sem,sbT,tP];all_goals exact agA
end
def sgAe:Sg:=fun f args ls =>
  match f,args,ls with
  | 157,[.ptr 0 0 0,.agg k],[.li 16 [.agg b]]=>some (.tup [],[.li 16 [.agg ((cmb (b.map toB) (k.map toB)).map bA)]],(b=(b.map toB).map bA∧k=(k.map toB).map bA)∧b.length=16∧k.length=16)
  | 158,[.ptr 0 0 0,.ep (.agg t) o],[.li 16 [.agg b]]=>some (.tup [],[.li 16 [.agg ((sbsO (t.map toB) o (b.map toB)).map bA)]],(b=(b.map toB).map bA∧t=(t.map toB).map bA)∧b.length=16∧o+256≤t.length)
  | 159,[.ptr 0 0 0,.lit (.int .i64 s)],[.li 16 [.agg b]]=>some (.tup [],[.li 16 [.agg ((rot s.toNat (b.map toB)).map bA)]],(b=(b.map toB).map bA∧0≤s)∧b.length=16∧s≤3)
  | 160,[.ptr 0 0 0,.agg r],[.li 16 [.agg b]]=>some (.tup [],[.li 16 [.agg ((mix (r.map toB) (b.map toB)).map bA)]],(b=(b.map toB).map bA∧r=(r.map toB).map bA)∧b.length=16∧r.length=4)
  | _,_,_=>none
theorem sgAe_ok:SgOK Tryz.prog sgAe:=by
  intro f args ls r ls' vc h hvc;unfold sgAe at h;split at h <;> cases h
  · refine ⟨(fnOK Tryz.func157 (by decide) rfl),?_⟩;rename_i k b;have:=combine_s (b.map toB) (k.map toB) (by rw [List.length_map];exact hvc.2.1) (by rw [List.length_map];exact hvc.2.2);rw [← hvc.1.1,← hvc.1.2] at this;exact this
  · refine ⟨(fnOK Tryz.func158 (by decide) rfl),?_⟩;rename_i t o b;have:=subst_s (b.map toB) (t.map toB) o (by rw [List.length_map];exact hvc.2.1) (by rw [List.length_map];exact hvc.2.2);rw [← hvc.1.1,← hvc.1.2] at this;exact this
  · refine ⟨(fnOK Tryz.func159 (by decide) rfl),?_⟩;rename_i s b;have:=rotate_s (b.map toB) s.toNat (by rw [List.length_map];exact hvc.2.1) (by have:=hvc.1.2;have:=hvc.2.2;omega);rw [← hvc.1.1,Int.toNat_of_nonneg hvc.1.2] at this;exact this
  · refine ⟨(fnOK Tryz.func160 (by decide) rfl),?_⟩;rename_i r b;have:=mix_s (b.map toB) (r.map toB) (by rw [List.length_map];exact hvc.2.1) (by rw [List.length_map];exact hvc.2.2);rw [← hvc.1.1,← hvc.1.2] at this;exact this
def bk (E:List UInt8) (i:Nat):List UInt8:=(E.drop (i*16)).take 16
theorem bk_len {E:List UInt8} (hE:E.length=176) {i:Nat} (h:i<11):(bk E i).length=16:=by
  unfold bk;rw [List.length_take,List.length_drop];omega
def encR (T E b:List UInt8):Nat→List UInt8
  | 0=>cmb b (bk E 0)
  | n+1=>cmb (if n+1<10 then mix R1w (rot 1 (sbsO T 0 (encR T E b n))) else rot 1 (sbsO T 0 (encR T E b n))) (bk E (n+1))
theorem encR_len (T E b:List UInt8):∀ n,(encR T E b n).length=16
  | 0=>of16_len _
  | n+1=>of16_len _
theorem ok_bA (l:List UInt8):∀ y∈l.map bA,byteOK y:=fun y hy=>by
  obtain ⟨z,_,rfl⟩:=List.mem_map.1 hy;show bA z=bA (toB (bA z));have:toB (bA z)=z:=by simp [toB,bA]
  rw [this]
theorem Tr_cE (T E:List UInt8) (o:Nat):Tr (.ep (.agg (.ep (.agg (T.map bA)) 0::E.map bA)) o)=True:=eq_true (Tr.ep fun y hy=>by
  have hy:y∈AV.ep (.agg (T.map bA)) 0::E.map bA:=hy;rcases List.mem_cons.1 hy with rfl | hy
  · exact Tr_ebA T 0
  · exact Tr_bA E y hy)
theorem enc_s (T E b:List UInt8) (hT:T.length=512) (hE:E.length=176) (hb:b.length=16):FnS Tryz.prog 112 [.ep (.agg (.ep (.agg (T.map bA)) 0::E.map bA)) 0,.by_ b] [] (.by_ (encR T E b 10)) []:=by
  have hs:=sgAe_ok;refine fo Tryz.func112 40 fun X hX=>?_;refine up 1 ?_;have t1:List.take 16 b=b:=List.take_of_length_le (by omega);have t2:List.take 16 (b.map bA)=b.map bA:=List.take_of_length_le (by rw [List.length_map];omega);refine rK hs fun K hK=>?_;simp only [go_sem,hb,t1,t2,List.length_map]
  refine eK ?_;have k0:List.take 16 (E.map bA)=(bk E 0).map bA:=by
    unfold bk;rw [List.map_take,Nat.zero_mul,List.drop_zero]
  have l0:=bk_len hE (i:=0) (by omega);have e0:cmb b (bk E 0)=encR T E b 0:=rfl;refine rK hs fun K hK=>?_;simp only [go_sem,sgAe,hb,hE,t1,t2,k0,l0,e0,List.length_map,toB_bA,cvL_bA]
  refine eK ?_;refine up 3 ?_;refine WA.loopW hX (fun k=>if k=3000 then 2032 else k) ((fun (i:Nat)=>⟨[(0,.ep (.agg (.ep (.agg (T.map bA)) 0::E.map bA)) 0),(5,.ptr 3000 0 0),(6,.lit (.int .i64 ((i:Nat)+1)))],[(3000,⟨.li 16 [.agg ((encR T E b i).map bA)],0,false⟩)],4000,40⟩:_→St)) (fun i=>10-i) (fun i=>i≤10) (i0:=0) (Nat.zero_le _) (by simp only [go_sem,Int.natCast_add,Int.natCast_zero,Tr_cE] <;> (try and_intros) <;> (try omega)) fun i hi=>?_
  have hL:=encR_len T E b i;obtain ⟨a,ha⟩:∃ a,encR T E b i=a:=⟨_,rfl⟩;simp only [ha] at hL ⊢;refine up 2 ?_;refine WA.cond rfl (fun h=>?_) (fun h=>?_)
  ·
    have h:i<10:=by first | (simp [true_and] at h;omega) | (simp [true_and] at h;exact h) | omega | simpa using h
    have l1:=bk_len hE (i:=i+1) (by omega);have k1:∀ x:AV,List.take 16 (List.drop (1+(i+1)*16) (x::E.map bA))=(bk E (i+1)).map bA:=fun x=>by
      unfold bk;rw [Nat.add_comm 1,List.drop_succ_cons,List.map_take,List.map_drop]
    have s1:(sbsO T 0 a).length=16:=of16_len _;have s2:(rot 1 (sbsO T 0 a)).length=16:=of16_len _;have s3:(mix R1w (rot 1 (sbsO T 0 a))).length=16:=of16_len _;have q1:(1:Int).toNat=1:=rfl;have q7:(((i:Nat):Int)+1).toNat=i+1:=by omega
    refine up 3 ?_;refine rK hs fun K hK=>?_;simp only [go_sem,sgAe,hT,hL,List.length_map,toB_bA,cvL_bA]
    refine eK ?_;refine rK hs fun K hK=>?_;simp only [go_sem,sgAe,s1,q1,List.length_map,toB_bA]
    refine eK ?_;refine up 2 ?_;refine WA.cond rfl (fun h'=>?_) (fun h'=>?_)
    ·
      have h':i+1<10:=by first | (simp [true_and] at h';omega) | (simp [true_and] at h';exact h') | omega | simpa using h'
      have rw1:[(2:UInt8),3,1,1]=R1w:=rfl;have r4:([AV.lit (.int .u8 2),.lit (.int .u8 3),.lit (.int .u8 1),.lit (.int .u8 1)]=R1w.map bA)=True:=eq_true rfl;have n1:encR T E b (i+1)=cmb (mix R1w (rot 1 (sbsO T 0 a))) (bk E (i+1)):=by rw [← ha,encR,if_pos h']
      have c1:((UInt8.toNat 1:Nat):Int)=1:=rfl;have c2:((UInt8.toNat 2:Nat):Int)=2:=rfl;have c3:((UInt8.toNat 3:Nat):Int)=3:=rfl;refine WA.regionE ty_ok hs fun K hK=>?_;simp only [go_sem,sgAe,s2,rw1,r4,c1,c2,c3,List.length_map,toB_bA]
      refine eN ?_
      refine WA.regionE ty_ok hs fun K hK=>?_;simp only [go_sem,sgAe,hE,s3,k1,l1,q7,List.length_map,toB_bA,cvL_bA]
      refine eN ?_
      refine WA.regionE ty_ok hs fun K hK=>?_;simp only [go_sem,true_and]
      (repeat refine sdA ?_);refine hK _ (roundE hX (fun k=>k) (j:=i+1) (by omega) (by first | omega | (dsimp only;omega) | (simp;omega)) (by simp only [go_sem,Int.natCast_add,n1,Tr_cE] <;> (try and_intros) <;> (try omega)))
    ·
      have h':¬ i+1<10:=by first | (simp [true_and] at h';omega) | (simp [true_and] at h';exact h') | omega | simpa using h'
      refine up 1 ?_
      have n1:encR T E b (i+1)=cmb (rot 1 (sbsO T 0 a)) (bk E (i+1)):=by rw [← ha,encR,if_neg h']
      refine WA.regionE ty_ok hs fun K hK=>?_;simp only [go_sem,sgAe,hE,s2,k1,l1,q7,List.length_map,toB_bA,cvL_bA]
      refine eN ?_
      refine WA.regionE ty_ok hs fun K hK=>?_;simp only [go_sem,true_and]
      (repeat refine sdA ?_);refine hK _ (roundE hX (fun k=>k) (j:=i+1) (by omega) (by first | omega | (dsimp only;omega) | (simp;omega)) (by simp only [go_sem,Int.natCast_add,n1,Tr_cE] <;> (try and_intros) <;> (try omega)))
  ·
    have h:¬ i<10:=by first | (simp [true_and] at h;omega) | (simp [true_and] at h;exact h) | omega | simpa using h
    obtain rfl:i=10:=by omega
    refine up 1 ?_
    rw [ha];have hok:=ok_bA a;refine rK hs fun K hK=>?_;simp only [go_sem,hL,List.length_map,toB_bA]
    refine eK ?_;refine rE [.by_ a] [] [.tmp 4] ?_;simp only [go_sem,sbT];all_goals exact agA
def decR (T E b:List UInt8):Nat→List UInt8
  | 0=>b
  | n+1=>sbsO T 256 (rot 3 (if 10-n<10 then mix R2w (cmb (decR T E b n) (bk E (10-n))) else cmb (decR T E b n) (bk E (10-n))))
theorem decR_len (T E:List UInt8) {b:List UInt8} (hb:b.length=16):∀ n,(decR T E b n).length=16
  | 0=>hb
  | n+1=>of16_len _
def decB (T E b:List UInt8):List UInt8:=cmb (decR T E b 10) (bk E 0)
theorem dec_s (T E b:List UInt8) (hT:T.length=512) (hE:E.length=176) (hb:b.length=16):FnS Tryz.prog 140 [.ep (.agg (.ep (.agg (T.map bA)) 0::E.map bA)) 0,.by_ b] [] (.by_ (decB T E b)) []:=by
  have hs:=sgAe_ok;have t1:List.take 16 b=b:=List.take_of_length_le (by omega);have t2:List.take 16 (b.map bA)=b.map bA:=List.take_of_length_le (by rw [List.length_map];omega);have k0:List.take 16 (E.map bA)=(bk E 0).map bA:=by
    unfold bk;rw [List.map_take,Nat.zero_mul,List.drop_zero]
  have l0:=bk_len hE (i:=0) (by omega);have e0:b=decR T E b 0:=rfl;refine fo Tryz.func140 40 fun X hX=>?_;refine up 1 ?_;refine rK hs fun K hK=>?_;simp only [go_sem,hb,t1,t2,List.length_map]
  refine eK ?_;refine up 3 ?_;refine WA.loopW hX (fun k=>if k=3000 then 2032 else k) ((fun (i:Nat)=>⟨[(0,.ep (.agg (.ep (.agg (T.map bA)) 0::E.map bA)) 0),(5,.ptr 3000 0 0),(6,.lit (.int .i64 (10-(i:Nat))))],[(3000,⟨.li 16 [.agg ((decR T E b i).map bA)],0,false⟩)],4000,40⟩:_→St)) (fun i=>10-i) (fun i=>i≤10) (i0:=0) (Nat.zero_le _) (by simp only [go_sem,Int.natCast_add,Int.natCast_zero,Tr_cE,decR,Int.sub_zero] <;> (try and_intros) <;> (try omega)) fun i hi=>?_
  have hL:=decR_len T E hb i;obtain ⟨a,ha⟩:∃ a,decR T E b i=a:=⟨_,rfl⟩;simp only [ha] at hL ⊢;refine up 2 ?_;refine WA.cond rfl (fun h=>?_) (fun h=>?_)
  ·
    have h:i<10:=by first | (simp [true_and] at h;omega) | (simp [true_and] at h;exact h) | omega | simpa using h
    have l1:=bk_len hE (i:=10-i) (by omega);have k1:∀ x:AV,List.take 16 (List.drop (1+(10-i)*16) (x::E.map bA))=(bk E (10-i)).map bA:=fun x=>by
      unfold bk;rw [Nat.add_comm 1,List.drop_succ_cons,List.map_take,List.map_drop]
    have s1:(cmb a (bk E (10-i))).length=16:=of16_len _;have s2:(mix R2w (cmb a (bk E (10-i)))).length=16:=of16_len _;have s3:(rot 3 (mix R2w (cmb a (bk E (10-i))))).length=16:=of16_len _;have s4:(rot 3 (cmb a (bk E (10-i)))).length=16:=of16_len _;have q3:(3:Int).toNat=3:=rfl;have q7:((10:Int)-((i:Nat):Int)).toNat=10-i:=by omega
    refine up 3 ?_;refine rK hs fun K hK=>?_;simp only [go_sem,sgAe,hL,hE,k1,l1,q7,List.length_map,toB_bA,cvL_bA]
    refine eK ?_;refine up 2 ?_;refine WA.cond rfl (fun h'=>?_) (fun h'=>?_)
    ·
      have h':10-i<10:=by first | (simp [true_and] at h';omega) | (simp [true_and] at h';exact h') | omega | simpa using h'
      have rw1:[(14:UInt8),11,13,9]=R2w:=rfl;have r4:([AV.lit (.int .u8 14),.lit (.int .u8 11),.lit (.int .u8 13),.lit (.int .u8 9)]=R2w.map bA)=True:=eq_true rfl;have n1:decR T E b (i+1)=sbsO T 256 (rot 3 (mix R2w (cmb a (bk E (10-i))))):=by rw [← ha,decR,if_pos h']
      refine WA.regionE ty_ok hs fun K hK=>?_;simp only [go_sem,sgAe,s1,rw1,r4,List.length_map,toB_bA]
      refine eN ?_
      refine rK hs fun K hK=>?_;simp only [go_sem,sgAe,s2,q3,List.length_map,toB_bA]
      refine eK ?_;refine WA.regionE ty_ok hs fun K hK=>?_;simp only [go_sem,sgAe,hT,s3,List.length_map,toB_bA]
      refine eN ?_
      refine WA.regionE ty_ok hs fun K hK=>?_;simp only [go_sem,true_and]
      (repeat refine sdA ?_);refine hK _ (roundE hX (fun k=>k) (j:=i+1) (by omega) (by first | omega | (dsimp only;omega) | (simp;omega)) (by simp only [go_sem,Int.natCast_add,n1,Tr_cE] <;> (try and_intros) <;> (try omega)))
    ·
      have h':¬ 10-i<10:=by first | (simp [true_and] at h';omega) | (simp [true_and] at h';exact h') | omega | simpa using h'
      have n1:decR T E b (i+1)=sbsO T 256 (rot 3 (cmb a (bk E (10-i)))):=by rw [← ha,decR,if_neg h']
      refine up 1 ?_
      refine rK hs fun K hK=>?_;simp only [go_sem,sgAe,s1,q3,List.length_map,toB_bA]
      refine eK ?_;refine WA.regionE ty_ok hs fun K hK=>?_;simp only [go_sem,sgAe,hT,s4,List.length_map,toB_bA]
      refine eN ?_
      refine WA.regionE ty_ok hs fun K hK=>?_;simp only [go_sem,true_and]
      (repeat refine sdA ?_);refine hK _ (roundE hX (fun k=>k) (j:=i+1) (by omega) (by first | omega | (dsimp only;omega) | (simp;omega)) (by simp only [go_sem,Int.natCast_add,n1,Tr_cE] <;> (try and_intros) <;> (try omega)))
  ·
    have h:¬ i<10:=by first | (simp [true_and] at h;omega) | (simp [true_and] at h;exact h) | omega | simpa using h
    obtain rfl:i=10:=by omega
    unfold decB;rw [ha];have hok:=ok_bA (cmb a (bk E 0));have s5:(cmb a (bk E 0)).length=16:=of16_len _;refine up 1 ?_
    refine rK hs fun K hK=>?_;simp only [go_sem,sgAe,hL,hE,k0,l0,List.length_map,toB_bA,cvL_bA]
    refine eK ?_;refine rK hs fun K hK=>?_;simp only [go_sem,s5,List.length_map,toB_bA]
    refine eK ?_;refine rE [.by_ (cmb a (bk E 0))] [] [.tmp 4] ?_;simp only [go_sem,sbT];all_goals exact agA
theorem colF_congr (r:List UInt8) {f g:Nat→UInt8} (j:Nat) (h:∀ k,k<4→f k=g k):colF r f j=colF r g j:=by
  unfold colF;rw [h 0 (by omega),h 1 (by omega),h 2 (by omega),h 3 (by omega)]
theorem mxA_col (r b:List UInt8) (i:Nat):mxA r b i 4=colF r (fun k=>at_ b (i / 4*4+k)) (i % 4):=by
  simp only [mxA,colF,Nat.add_zero,Nat.zero_add,Nat.reduceAdd,UInt8.zero_xor]
theorem mix_two {b:List UInt8} (h:b.length=16):mix R2w (mix R1w b)=b:=by
  rw [← of16_eta h];refine of16_congr fun i hi=>?_;rw [of16_eta h,mxA_col];have e:∀ k,k<4→at_ (mix R1w b) (i / 4*4+k)=colF R1w (fun k=>at_ b (i / 4*4+k)) k:=fun k hk=>by
    rw [mix,of16_at _ (by omega),mxA_col];have e1:(i / 4*4+k) / 4=i / 4:=by omega
    have e2:(i / 4*4+k) % 4=k:=by omega
    rw [e1,e2]
  rw [colF_congr _ _ e,col_two _ (Nat.mod_lt _ (by omega))];show at_ b (i / 4*4+i % 4)=at_ b i;rw [Nat.div_add_mod']
theorem sbsO_fw (b:List UInt8):sbsO (tbL Tab) 0 b=sbs Tab.fw b:=of16_congr fun i hi=>by
  have h1:=Tab_len.1;have h2:=(at_ b i).toNat_lt;unfold tbL;rw [Nat.zero_add];simp only [List.getD];rw [List.getElem?_append_left (by omega)]
theorem sbsO_bk (b:List UInt8):sbsO (tbL Tab) 256 b=sbs Tab.bk b:=of16_congr fun i hi=>by
  have h1:=Tab_len.1;unfold tbL;simp only [List.getD];rw [List.getElem?_append_right (by omega),h1,Nat.add_sub_cancel_left]
theorem dec_enc_at (E b:List UInt8) (hb:b.length=16):∀ n,n≤10→decR (tbL Tab) E (encR (tbL Tab) E b 10) n=encR (tbL Tab) E b (10-n)
  | 0,_=>rfl
  | n+1,hn=>by
    have ih:=dec_enc_at E b hb n (by omega);obtain ⟨m,hm⟩:∃ m,10-n=m+1:=⟨9-n,by omega⟩;have hm':10-(n+1)=m:=by omega
    have l0:=encR_len (tbL Tab) E b m;have l1:(sbsO (tbL Tab) 0 (encR (tbL Tab) E b m)).length=16:=of16_len _;have l2:(rot 1 (sbsO (tbL Tab) 0 (encR (tbL Tab) E b m))).length=16:=of16_len _;have l3:(mix R1w (rot 1 (sbsO (tbL Tab) 0 (encR (tbL Tab) E b m)))).length=16:=of16_len _;rw [decR,ih,hm,hm',encR];by_cases h:m+1<10
    · rw [if_pos h,if_pos h,cmb_two l3,mix_two l2,rot_two l1,sbsO_fw,sbsO_bk,sbs_two l0]
    · rw [if_neg h,if_neg h,cmb_two l2,rot_two l1,sbsO_fw,sbsO_bk,sbs_two l0]
theorem dec_enc (E b:List UInt8) (hb:b.length=16):decB (tbL Tab) E (encR (tbL Tab) E b 10)=b:=by
  rw [decB,dec_enc_at E b hb 10 (Nat.le_refl _),Nat.sub_self,encR,cmb_two hb]
section
attribute [local irreducible] Tab encR expK
def enc1 (key b:List UInt8):List UInt8:=encR (tbL Tab) (expK (tbL Tab) key) b 10
def dec1 (key b:List UInt8):List UInt8:=decB (tbL Tab) (expK (tbL Tab) key) b
theorem enc1_len (key b:List UInt8):(enc1 key b).length=16:=by
  unfold enc1;exact encR_len _ _ _ _
theorem dec1_len (key b:List UInt8):(dec1 key b).length=16:=by
  unfold dec1 decB cmb;exact of16_len _
theorem dec_enc1 (key b:List UInt8) (hb:b.length=16):dec1 key (enc1 key b)=b:=by
  unfold dec1 enc1;exact dec_enc _ _ hb
theorem expK_len {key:List UInt8} (hk:key.length=16):(expK (tbL Tab) key).length=176:=by
  unfold expK;exact exR_len _ hk 10
theorem cph_eq (key:List UInt8):cphA key = .agg (.ep (.agg ((tbL Tab).map bA)) 0::(expK (tbL Tab) key).map bA):=by
  unfold cphA tbAV;rfl
theorem enc1_s (key b:List UInt8) (hk:key.length=16) (hb:b.length=16):FnS Tryz.prog 112 [.ep (cphA key) 0,.by_ b] [] (.by_ (enc1 key b)) []:=by
  rw [cph_eq];unfold enc1;exact enc_s _ _ _ (tbL_len Tab_len) (expK_len hk) hb
theorem dec1_s (key b:List UInt8) (hk:key.length=16) (hb:b.length=16):FnS Tryz.prog 140 [.ep (cphA key) 0,.by_ b] [] (.by_ (dec1 key b)) []:=by
  rw [cph_eq];unfold dec1;exact dec_s _ _ _ (tbL_len Tab_len) (expK_len hk) hb
def sgCy (key:List UInt8):Sg:=fun f args ls =>
  match f,args,ls with
  | 111,[.by_ k],[]=>some (.ep (cphA k) 0,[],k.length=16)
  | 112,[.ep x 0,.by_ b],[]=>some (.by_ (enc1 key b),[],x=cphA key∧key.length=16∧b.length=16)
  | 140,[.ep x 0,.by_ b],[]=>some (.by_ (dec1 key b),[],x=cphA key∧key.length=16∧b.length=16)
  | _,_,_=>none
theorem sgCy_ok (key:List UInt8):SgOK Tryz.prog (sgCy key):=by
  intro f args ls r ls' vc h hvc;unfold sgCy at h;split at h <;> cases h
  · exact ⟨(fnOK Tryz.func111 (by decide) rfl),ready_s _ hvc⟩
  · obtain ⟨rfl,h1,h2⟩:=hvc;exact ⟨(fnOK Tryz.func112 (by decide) rfl),enc1_s _ _ h1 h2⟩
  · obtain ⟨rfl,h1,h2⟩:=hvc;exact ⟨(fnOK Tryz.func140 (by decide) rfl),dec1_s _ _ h1 h2⟩
theorem aesE_s (key b:List UInt8) (hk:key.length=16) (hb:b.length=16):FnS Tryz.prog 114 [.by_ key,.by_ b] [] (.tup [.by_ (enc1 key b),.lit (.int .i64 0)]) []:=by
  have hs:=sgCy_ok key;refine fo Tryz.func114 18 fun X hX=>?_;refine up 2 ?_;refine rK hs fun K hK=>?_;simp only [go_sem,hk,hb]
  refine eK ?_;refine WA.cond rfl (fun h=>absurd h (by simp)) (fun h=>?_);refine up 1 ?_
  have hT:=Tr_cph key 0;refine rK hs fun K hK=>?_;simp only [go_sem,sgCy,hk,hb,hT]
  refine eK ?_;refine rE [.by_ (enc1 key b),.lit (.int .i64 0)] [] [.tmp 4,.tmp 5] ?_;simp only [go_sem,sbT];all_goals exact agA
end
def sgCl:Sg:=fun f args ls =>
  match f,args,ls with
  | 46,[.by_ bs],[]=>some (.fr (.by_ bs),[],bs.length≤140737488355328)
  | _,_,_=>none
theorem sgCl_ok:SgOK Tryz.prog sgCl:=by
  intro f args ls r ls' vc h hvc;unfold sgCl at h;split at h <;> cases h
  · exact ⟨(fnOK Tryz.func46 (by decide) rfl),sclone_s _ hvc⟩
def xrA (a b:List UInt8):Nat→List UInt8
  | 0=>a
  | i+1=>(xrA a b i).set i ((xrA a b i).getD i 0 ^^^ b.getD i 0)
theorem xrA_len (a b:List UInt8):∀ i,(xrA a b i).length=a.length
  | 0=>rfl
  | i+1=>by rw [xrA,List.length_set,xrA_len a b i]
def xorB (a b:List UInt8):List UInt8:=xrA a b a.length
theorem combineM_s (a b:List UInt8) (h1:a.length≤b.length) (h2:a.length≤1000000000):FnS Tryz.prog 113 [.by_ a,.by_ b] [] (.fr (.by_ (xorB a b))) []:=by
  have hs:=sgCl_ok;have hc:a.length≤140737488355328:=by omega
  refine fo Tryz.func113 26 fun X hX=>?_;refine up 1 ?_;refine rK hs fun K hK=>?_;simp only [go_sem,sgCl,hc]
  refine eK ?_;refine up 3 ?_;have x0:xrA a b 0=a:=rfl;refine WA.loopW hX (fun k=>if k=3000 then 2016 else k) ((fun (i:Nat)=>⟨[(1,.by_ b),(5,.sl 3000 1 0 a.length),(10,.lit (.int .i64 (a.length:Nat))),(11,.lit (.int .i64 (i:Nat)))],[(3000,⟨.by_ (xrA a b i),0,false⟩)],4000,26⟩:_→St)) (fun i=>a.length-i) (fun i=>i≤a.length) (i0:=0) (Nat.zero_le _) (by simp only [go_sem,Int.natCast_add,x0,Int.natCast_zero] <;> (try and_intros) <;> (try omega)) fun i hi=>?_
  have hL:=xrA_len a b i;refine up 2 ?_;refine WA.cond rfl (fun h=>?_) (fun h=>?_)
  ·
    have h:i<a.length:=by first | (simp [true_and] at h;omega) | (simp [true_and] at h;exact h) | omega | simpa using h
    have hb:i<b.length:=by omega
    have n1:xrA a b (i+1)=(xrA a b i).set i ((xrA a b i).getD i 0 ^^^ b.getD i 0):=rfl;obtain ⟨r,hr⟩:∃ r,xrA a b i=r:=⟨_,rfl⟩;simp only [hr] at hL n1 ⊢;refine up 4 ?_;refine WA.drawn2 mixed_ ty_ok hs (tbl:=[[],[],[0,1],[0,1,2],[],[],[4,5],[4,5,6],[0,1,2,3,4,5,6,7],[0,1,2,3,4,5,6,7,8],[0,1,2,3,4,5,6,7,8,9]]) (nb:=[3,7,10]) (hk:=[[],[],[],[],[],[],[],[],[],[],[]]) (by kernel_rfl) fun K hK=>?_;simp only [go_sem,hL,hb,xor_u8]
    refine eN ?_
    refine WA.regionE ty_ok hs fun K hK=>?_;simp only [go_sem,true_and]
    (repeat refine sdA ?_);refine hK _ (roundE hX (fun k=>k) (j:=i+1) (by omega) (by first | omega | (dsimp only;omega) | (simp;omega)) (by simp only [go_sem,Int.natCast_add,n1] <;> (try and_intros) <;> (try omega)))
  ·
    have h:¬ i<a.length:=by first | (simp [true_and] at h;omega) | (simp [true_and] at h;exact h) | omega | simpa using h
    obtain rfl:i=a.length:=by omega
    have e:xrA a b a.length=xorB a b:=rfl;rw [e] at hL ⊢;refine up 1 ?_
    refine rK hs fun K hK=>?_;simp only [go_sem,hL]
    refine eK ?_;refine rE [.fr (.by_ (xorB a b))] [] [.tmp 4] ?_;simp only [go_sem,sbT,hL];all_goals exact agA
theorem xrA_at (a b:List UInt8):∀ i j,i≤a.length→j<a.length→(xrA a b i).getD j 0=if j<i then a.getD j 0 ^^^ b.getD j 0 else a.getD j 0
  | 0,j,_,_=>by rw [if_neg (Nat.not_lt_zero j)];rfl
  | i+1,j,hi,hj=>by
    have ih:=xrA_at a b i j (by omega) hj;have ihi:=xrA_at a b i i (by omega) (by omega);rw [if_neg (Nat.lt_irrefl i)] at ihi;have hL:=xrA_len a b i;rw [xrA];by_cases h:i=j
    · subst h;rw [if_pos (Nat.lt_succ_self i),ihi];simp only [List.getD,List.getElem?_set,hL,hj,if_true,Option.getD_some]
    · have e:((xrA a b i).set i ((xrA a b i).getD i 0 ^^^ b.getD i 0)).getD j 0=(xrA a b i).getD j 0:=by
        simp only [List.getD,List.getElem?_set,h,if_false]
      rw [e,ih];by_cases h3:j<i
      · rw [if_pos h3,if_pos (by omega)]
      · rw [if_neg h3,if_neg (by omega)]
theorem xorB_len (a b:List UInt8):(xorB a b).length=a.length:=xrA_len a b _
theorem xorB_at (a b:List UInt8) {j:Nat} (hj:j<a.length):(xorB a b).getD j 0=a.getD j 0 ^^^ b.getD j 0:=by
  rw [xorB,xrA_at a b _ j (Nat.le_refl _) hj,if_pos hj]
theorem xorB_two (a b:List UInt8):xorB (xorB a b) b=a:=by
  have hl:(xorB (xorB a b) b).length=a.length:=by rw [xorB_len,xorB_len]
  refine List.ext_getElem hl fun j h1 h2=>?_;have e1:=xorB_at (xorB a b) b (j:=j) (by rw [xorB_len];exact h2);rw [xorB_at a b h2,UInt8.xor_assoc,UInt8.xor_self,UInt8.xor_zero] at e1;simpa [List.getD,List.getElem?_eq_getElem h1,List.getElem?_eq_getElem h2] using e1
end Go.Proofs.YtjjkfpbkmhfckaaGreatDoor
