import Derived.Test.YtjjkfpbkmhfckaaGreatDoorK10
import Derived.Test.YtjjkfpbkmhfckaaGreatDoorK06
set_option linter.unusedVariables false
set_option linter.unusedSimpArgs false
set_option maxHeartbeats 1000000
set_option maxRecDepth 10000
namespace Go.Proofs.YtjjkfpbkmhfckaaGreatDoor
open Go.RowKit Go.TravelBase Go.TravelAbs
theorem get_bA {l:List UInt8} {i:Nat} (h:i<l.length) (z:AV):(l.map bA).getD i z = .lit (.int .u8 ((l.getD i 0).toNat:Int)):=by
  simp [List.getD,List.getElem?_eq_getElem h,bA]
theorem put_bA {l:List UInt8} {i:Nat} (h:i<l.length) (v:UInt8):(l.map bA).take i++[AV.lit (.int .u8 (v.toNat:Int))]++(l.map bA).drop (i+1)=(l.set i v).map bA:=by
  rw [List.set_eq_take_append_cons_drop,if_pos h];simp [bA]
theorem stg_put (f g:Nat→UInt8) {i:Nat} (h:i<16):((stg f g i).map bA).take i++[AV.lit (.int .u8 ((f i).toNat:Int))]++((stg f g i).map bA).drop (i+1)=(stg f g (i+1)).map bA:=by
  rw [put_bA (by rw [stg_len];exact h),stg_set f g h]
theorem stg_get (f g:Nat→UInt8) {i:Nat} (h:i<16) (z:AV):((stg f g i).map bA).getD i z = .lit (.int .u8 ((g i).toNat:Int)):=by
  rw [get_bA (by rw [stg_len];exact h)];have:=stg_at f g (i:=i) h;rw [if_neg (Nat.lt_irrefl _)] at this;rw [← this];rfl
theorem one_bA (l:List UInt8):(l.map bA).all AV.one=true:=List.all_eq_true.2 fun x hx=>by obtain ⟨y,_,rfl⟩:=List.mem_map.1 hx;rfl
theorem Tr_aggb (l:List UInt8):Tr (.agg (l.map bA))=True:=eq_true (Tr.agg fun x hx=>by obtain ⟨y,_,rfl⟩:=List.mem_map.1 hx;exact Tr.lit _)
theorem TrC_bA (n:Nat) (l:List UInt8):TrC (.li n [.agg (l.map bA)])=True:=eq_true fun i hi y hy=>by
  have:i=0:=by simp only [cN,List.length_cons,List.length_nil] at hi;omega
  subst this;have hy:y∈l.map bA:=hy;obtain ⟨z,_,rfl⟩:=List.mem_map.1 hy;exact Tr.lit _
attribute [go_sem] one_bA Tr_aggb TrC_bA
theorem combine_s (b k:List UInt8) (hb:b.length=16) (hk:k.length=16):FnS Tryz.prog 157 [.ptr 0 0 0,.agg (k.map bA)] [.li 16 [.agg (b.map bA)]] (.tup []) [.li 16 [.agg ((cmb b k).map bA)]]:=by
  have hs:=sg0_ok;obtain ⟨f,hf⟩:∃ f,(fun i=>at_ b i ^^^ at_ k i)=f:=⟨_,rfl⟩;have e0:stg f (at_ b) 0=b:=(stg_0 _ _).trans (of16_eta hb);have e16:stg f (at_ b) 16=cmb b k:=by rw [stg_16,← hf];rfl
  refine fo Tryz.func157 20 fun X hX=>?_;refine rK hs fun K hK=>?_;simp only [go_sem,List.length_map,hk]
  refine eK ?_;refine up 2 ?_;refine WA.loopW hX (fun k=>if k=3000 then 2000 else k) ((fun (i:Nat)=>⟨[(0,.ptr 0 0 0),(3,.ptr 3000 0 0),(5,.lit (.int .i64 (i:Nat)))],[(0,⟨.li 16 [.agg ((stg f (at_ b) i).map bA)],0,true⟩),(3000,⟨.li 16 [.agg (k.map bA)],0,false⟩)],4000,20⟩:_→St)) (fun i=>16-i) (fun i=>i≤16) (i0:=0) (Nat.zero_le _) (by simp only [go_sem,Int.natCast_add,e0,Int.natCast_zero] <;> (try and_intros) <;> (try omega)) fun i hi=>?_
  refine up 2 ?_;refine WA.cond rfl (fun h=>?_) (fun h=>?_)
  ·
    have h:i<16:=by first | (simp [true_and] at h;omega) | (simp [true_and] at h;exact h) | omega | simpa using h
    have g1:=stg_get f (at_ b) h;have g2:=get_bA (l:=k) (i:=i) (by omega);have g3:=stg_put f (at_ b) h;have g4:at_ b i ^^^ k.getD i 0=f i:=by rw [← hf];rfl
    refine up 4 ?_;refine WA.drawn2 mixed_ ty_ok hs (tbl:=[[],[],[0],[0,1,2],[0,1,2,3],[],[5],[5,6],[0,1,2,3,4,5,6,7],[0],[0,1,2,3,4,5,6,7,8,9],[0,1,2,3,4,5,6,7,8,9,10]]) (nb:=[4,7,11]) (hk:=[[],[],[],[],[],[],[],[],[],[],[],[]]) (by kernel_rfl) fun K hK=>?_;simp only [go_sem,List.length_map,hk,stg_len,g1,g2,g3,g4,xor_u8]
    refine eN ?_
    refine WA.regionE ty_ok hs fun K hK=>?_;simp only [go_sem,true_and]
    (repeat refine sdA ?_);refine hK _ (roundE hX (fun k=>k) (j:=i+1) (by omega) (by first | omega | (dsimp only;omega) | (simp;omega)) (by simp only [go_sem,Int.natCast_add,true_and] <;> (try and_intros) <;> (try omega)))
  ·
    have h:¬ i<16:=by first | (simp [true_and] at h;omega) | (simp [true_and] at h;exact h) | omega | simpa using h
    obtain rfl:i=16:=by omega
    rw [e16];with_reducible refine WA.exitX ?_
    repeat first | with_reducible refine WX.t ?_ | (with_reducible refine WX.n ?hne ?_;case hne=>rfl)
    refine WX.bn ?_;refine WN.retE ty_ok (xs:=[]) (ls':=[.li 16 [.agg ((cmb b k).map bA)]]) (rv:=[]) rfl hX (by simp) (fun _=>rfl) (fun _ _ h=>h) ?_;simp only [go_sem,sbT]
end Go.Proofs.YtjjkfpbkmhfckaaGreatDoor
