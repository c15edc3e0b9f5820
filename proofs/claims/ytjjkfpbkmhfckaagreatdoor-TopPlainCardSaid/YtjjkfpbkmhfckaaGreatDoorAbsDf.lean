import Derived.Test.YtjjkfpbkmhfckaaGreatDoorK10
import Derived.Defers
set_option linter.unusedVariables false
set_option linter.unusedSimpArgs false
set_option maxHeartbeats 1000000
set_option maxRecDepth 10000
namespace Go.TravelAbs
open Go.RowKit Go.TravelBase
def RelO (X:Cx) (tm0:List (Nat × AV)) (a0:Act) (s:St) (a:Act) (w:World):Prop :=
  a.tmps.size=s.sz∧(∀ k,s.ctr≤k→lk s.H k=none) ∧ ∃ S m,Mem X s.H S m w∧TmR w S m s.tm a∧TmR w S m tm0 a0
def FQD (P:Program) (X:Cx) (fn:Func) (r:AV) (ls':List AV):Exit→Act→World→Prop
  | .ret,a,w=>Leaves P fn a.tmps (fun e w'=>∃ v S' m',e = .returned v∧Mem (cxF X.w0 X.S0 X.nl X.rows ls') ((rcv 1000 r).2++lentF X.nl ls') S' m' w'∧VR w' S' m' (rcv 1000 r).1 v) a.defers .returning w
  | _,_,_=>False
section
variable {P:Program} {ty:Ty} {X:Cx} {σ:Sg} {Q:Exit→Act→World→Prop}
theorem evL_okO (hT:TysOK P ty) (hσ:SgOK P σ) {ops:Array Oper} {tm0:List (Nat × AV)} {a0:Act}:∀ (l:List Oper) (s s':St) (vc:Prop) (a:Act) (w:World),evL ty σ (fun j=>(ops[j]?).bind (·.dst)) l s=some (s',vc)→vc→RelO X tm0 a0 s a w→(∀ a' w',a'.defers=a.defers→RelO X tm0 a0 s' a' w'→Q .normal a' w')→wpList P ops Q l a w
  | [],s,s',vc,a,w,h,_,hR,hQ=>by
    simp only [evL,Option.some.injEq,Prod.mk.injEq] at h;obtain ⟨rfl,_⟩:=h;exact hQ a w rfl hR
  | o::r,s,s',vc,a,w,h,hvc,hR,hQ=>by
    simp only [evL] at h;split at h
    · rename_i out hout;split at h
      · rename_i s2 vc2 h2;simp only [Option.some.injEq,Prod.mk.injEq] at h;obtain ⟨rfl,rfl⟩:=h;obtain ⟨hok,v1,v2⟩:=hvc;refine wpList_step fun K hK=>?_;obtain ⟨hsz,hkl,S,m,hM,ht,h0⟩:=hR;refine evG_ok hT hσ hM ht (fun i _=>hkl _ (Nat.le_add_right _ _)) hout v1 fun v w' hL=>hK _ _ ?_;obtain ⟨S',m',q1,q2,q3⟩:=hL;refine evL_okO hT hσ r _ s2 vc2 _ w' h2 v2 ⟨by rw [put_size];exact hsz,fun k hk=>?_,S',m',q2,put_tm (ht.adv q1) (fun t ht=>by rw [hsz];exact dOK_at hok.1 t ht) q3,h0.adv q1⟩ fun a' w2 hd hR2=>hQ a' w2 (hd.trans (put_defers _ _ _)) hR2;have hk':s.ctr+8≤k:=hk;show lk (out.eff++s.H) k=none;rw [lk_app _ _ _ fun x hx e=>?_]
        · exact hkl k (by omega)
        · have:=List.all_eq_true.1 hok.2 x hx;simp only [decide_eq_true_eq] at this;omega
      · cases h
    · cases h
theorem FnS.ofD {f:FuncId} {fn:Func} {c:Code} {args ls:List AV} {r:AV} {ls':List AV} (hf:P.funcs[f]? = some fn) (hb:fn.body=some c) {N:Nat} (hN:fn.ntmps=N) (hn:args.length≤N) (hls:ls.length≤2000)
    (h:∀ X:Cx,X.nl=ls.length→X.ex = .nil→WA P X c (FQD P X fn r ls') ⟨tmArgs args 0,lentH ls 0,2000,N⟩):FnS P f args ls r ls':=by
  subst hN;intro w S rows vs hslt hgl hvs hargs hlent hinj;let X:Cx:=⟨w,S,ls.length,rows,.nil,.inl rfl⟩
  have hM:Mem X (lentH ls 0) S (mL ls.length rows) w:=by
    refine ⟨fun p hp=>by simp only [mL];rw [if_pos (show p<ls.length from hp)],⟨rfl,rfl,rfl,Nat.le_refl _,fun _ _ _=>rfl,fun _ _ q=>q.elim,Nat.zero_le _⟩,fun _ _ q=>q,fun _ _ q=>.inl q,hslt,fun k hk=>?_,fun k b hk=>?_,fun k k' b b' q q' h1 h2 h3 h4 _ _ _ _ h9=>?_,⟨hgl,fun _ _ _ q=>q.elim⟩⟩
    · rcases Nat.lt_or_ge k ls.length with hlt | hge
      · have:=lentH_lk ls 0 k _ (List.getElem?_eq_getElem hlt);rw [Nat.zero_add,hk] at this;cases this
      · simp only [mL];rw [if_neg (by omega)]
    · obtain ⟨hlt,rfl⟩:=lentH_some hk;refine ⟨rows k,by simp only [mL];rw [if_pos hlt],fun _=>?_⟩;obtain ⟨hB,hc⟩:=hlent k (ls.getD k .any) (by simp [List.getD,List.getElem?_eq_getElem hlt]);exact ⟨hB.es,hB.len,hB.max,hB.rd,hB.set,fun hm hc=>by
        obtain ⟨_,q2,q3⟩:=hB.row hm hc;exact ⟨by show X.lent _;exact ⟨k,hlt,rfl⟩,q2,q3⟩⟩
    · obtain ⟨a1,_⟩:=lentH_some h1;obtain ⟨a2,_⟩:=lentH_some h2;simp only [mL,if_pos a1] at h3;simp only [mL,if_pos a2] at h4;injection h3 with h3;injection h4 with h4;subst h3 h4;exact hinj k k' a1 a2 h9
  have hR:Rel X ⟨tmArgs args 0,lentH ls 0,2000,fn.ntmps⟩ { tmps:=vs++Array.replicate (fn.ntmps-vs.size) undef,defers:=[] } w:=by
    refine ⟨by simp;omega,rfl,fun k hk=>lentH_none ls 0 k (.inr (by have:2000≤k:=hk;omega)),S,mL ls.length rows,hM,fun t=>?_⟩;have e:=tmArgs_lk args 0 t;rw [Nat.zero_add] at e;simp only [gt,e];cases ht:args[t]? with
    | none=>exact .any _
    | some x =>
      have hlt:t<vs.size:=by rw [hvs];exact (List.getElem?_eq_some_iff.1 ht).1
      have e2:(vs++Array.replicate (fn.ntmps-vs.size) undef).getD t undef=vs[t]:=by
        rw [Array.getD_eq_getD_getElem?,Array.getElem?_append_left hlt,Array.getElem?_eq_getElem hlt];rfl
      rw [e2];exact hargs t x _ ht (Array.getElem?_eq_getElem hlt)
  refine calls_of_wp_defers hf hb (wp_mono (h X rfl rfl _ w hR) fun e a w' hq=>?_);cases e with
  | ret=>exact hq
  | _=>exact hq.elim
theorem WA.deferRet (hT:TysOK P ty) (hσ:SgOK P σ) {σ2:Sg} (hσ2:SgOK P σ2) (hE:X.ex = .nil) {s:St} {fn fg:Func} {rv:List ResultVar} {xs ls':List AV} {id16 id17 idc:Nat} {o1 o2:Oper} {l lc:List Oper} {g:FuncId} {d1 ta tb tc N:Nat} {cl:Call}
    (hrv:fn.results.toList=rv) (hnl:X.nl=ls'.length) (h1000:ls'.length<1000) (hsg:xs.length=1→isT (xs.getD 0 .any)=false)
    (q1:o1.op = .makeFunc (.func g) #[] #[.tmp ta,.tmp tb,.tmp tc]) (g1:o1.guard=none) (e1:o1.dst=some d1) (hd1:d1<s.sz)
    (q2:o2.op = .defer cl) (q3:cl.callee = .value (.tmp d1)) (q4:cl.args = #[]) (g2:o2.guard=none) (e2:o2.dst=none)
    (hg:P.funcs[g]? = some fg) (hb:fg.body=some (.region idc lc.toArray false)) (hN:fg.ntmps=N) (hN3:3≤N) (hrg:fg.results = #[]) (hnm:(fg.name == "runtime.NumGoroutine")=false)
    (h:∀ K:St→Prop,(∀ s1,(∀ K2:St→Prop,(∀ s2,ExR ty ⟨s1.tm,s2.H,s2.ctr,s1.sz⟩ rv xs ls'→K2 s2)→EvR ty σ2 (fun j=>(lc[j]?).bind (·.dst)) lc ⟨[(0,gt s.tm ta),(1,gt s.tm tb),(2,gt s.tm tc)],s1.H,s1.ctr,N⟩ K2)→K s1)→EvR ty σ (fun j=>(l[j]?).bind (·.dst)) l ⟨(d1,.any)::s.tm,s.H,s.ctr+16,s.sz⟩ K) :
    WA P X (.seq (.region id16 [o1,o2].toArray false) (.seq (.region id17 l.toArray false) .ret)) (FQD P X fn (mkR xs) ls') s:=by
  obtain ⟨s1,vc1,hev,hvc1,hc⟩:∃ s1 vc1,evL ty σ (fun j=>(l.toArray[j]?).bind (·.dst)) l ⟨(d1,.any)::s.tm,s.H,s.ctr+16,s.sz⟩=some (s1,vc1)∧vc1 ∧ ∃ s2 vc2,evL ty σ2 (fun j=>(lc.toArray[j]?).bind (·.dst)) lc ⟨[(0,gt s.tm ta),(1,gt s.tm tb),(2,gt s.tm tc)],s1.H,s1.ctr,N⟩=some (s2,vc2)∧vc2∧ExR ty ⟨s1.tm,s2.H,s2.ctr,s1.sz⟩ rv xs ls':=by
    have h1:=h (fun s1=>∃ s2 vc2,evL ty σ2 (fun j=>(lc[j]?).bind (·.dst)) lc ⟨[(0,gt s.tm ta),(1,gt s.tm tb),(2,gt s.tm tc)],s1.H,s1.ctr,N⟩=some (s2,vc2)∧vc2∧ExR ty ⟨s1.tm,s2.H,s2.ctr,s1.sz⟩ rv xs ls') fun s1 h2=>by
      have h3:=h2 (fun s2=>ExR ty ⟨s1.tm,s2.H,s2.ctr,s1.sz⟩ rv xs ls') fun _ q=>q;unfold EvR at h3;split at h3
      · rename_i s2 vc2 he;exact ⟨s2,vc2,he,h3.1,h3.2⟩
      · exact h3.elim
    unfold EvR at h1;split at h1
    · rename_i s1 vc1 he;simp only [List.getElem?_toArray];exact ⟨s1,vc1,he,h1.1,h1.2⟩
    · exact h1.elim
  obtain ⟨s2,vc2,hevc,hvc2,hx⟩:=hc;intro a w hR;obtain ⟨S,m,hM,ht⟩:=hR.mem;have hdf:a.defers=[]:=by rw [hR.defers,hE];rfl
  refine wp_seq (wp_region_list ?_);refine wpList_step fun K hK=>?_;rw [if_pos (by simp [Region.wanted,g1])];unfold Oper.wp;let fv:Value:=.func (.func g) #[] #[a.eval (.tmp ta),a.eval (.tmp tb),a.eval (.tmp tc)]
  have hrun:(execOp a.eval o1).run P w = .ok (.value fv) w:=by
    unfold execOp;rw [q1];simp [Instr.makeFunc,fv]
  rw [hrun];refine hK _ _ ?_;refine wpList_step fun K2 hK2=>?_;rw [if_pos (by simp [Region.wanted,g2])];unfold Oper.wp;let d:Deferred:={ target:=.fn (.func g) #[a.eval (.tmp ta),a.eval (.tmp tb),a.eval (.tmp tc)],args:=#[] }
  have hev1:(a.put o1.dst fv).eval (.tmp d1)=fv:=by
    show (a.put o1.dst fv).tmps.getD d1 undef=fv;rw [e1];have:d1<a.tmps.size:=by rw [hR.size];exact hd1
    simp [Act.put,this]
  have hrun2:(execOp (a.put o1.dst fv).eval o2).run P w = .ok (.defer d) w:=by
    unfold execOp;rw [q2];simp only [resolve,q3,q4,hev1];simp [Deferred.ofValue,fv,d]
  rw [hrun2];refine hK2 _ _ (wpList_nil ?_);show (Code.seq (.region id17 l.toArray false) .ret).wp P _ _ w;refine wp_seq (wp_region_list ?_);let a0:Act:={ tmps:=#[a.eval (.tmp ta),a.eval (.tmp tb),a.eval (.tmp tc)]++Array.replicate (N-3) undef,defers:=[] }
  have ht0:TmR w S m [(0,gt s.tm ta),(1,gt s.tm tb),(2,gt s.tm tc)] a0:=by
    intro t;match t with
    | 0 =>
      have e:a0.tmps.getD 0 undef=a.eval (.tmp ta):=by
        show (#[a.eval (.tmp ta),a.eval (.tmp tb),a.eval (.tmp tc)]++Array.replicate (N-3) undef).getD _ undef=_;rw [Array.getD_eq_getD_getElem?,Array.getElem?_append_left (by simp)];rfl
      rw [e];exact ht ta
    | 1 =>
      have e:a0.tmps.getD 1 undef=a.eval (.tmp tb):=by
        show (#[a.eval (.tmp ta),a.eval (.tmp tb),a.eval (.tmp tc)]++Array.replicate (N-3) undef).getD _ undef=_;rw [Array.getD_eq_getD_getElem?,Array.getElem?_append_left (by simp)];rfl
      rw [e];exact ht tb
    | 2 =>
      have e:a0.tmps.getD 2 undef=a.eval (.tmp tc):=by
        show (#[a.eval (.tmp ta),a.eval (.tmp tb),a.eval (.tmp tc)]++Array.replicate (N-3) undef).getD _ undef=_;rw [Array.getD_eq_getD_getElem?,Array.getElem?_append_left (by simp)];rfl
      rw [e];exact ht tc
    | t+3=>exact .any _
  have htm:TmR w S m ((d1,.any)::s.tm) ({ (a.put o1.dst fv) with defers:=d::(a.put o1.dst fv).defers }.put o2.dst undef):=by
    rw [e2];have:=put_tm (d:=o1.dst) (v:=fv) (x:=.any) ht (fun t q=>by rw [e1] at q;cases q;rw [hR.size];exact hd1) (.any _);rw [e1] at this ⊢;exact this
  refine evL_okO hT hσ (tm0:=[(0,gt s.tm ta),(1,gt s.tm tb),(2,gt s.tm tc)]) (a0:=a0) l _ s1 vc1 _ w hev hvc1 ⟨?_,?_,S,m,hM,htm,ht0⟩ fun a3 w3 hd3 hR3=>?_
  · rw [put_size];show (a.put o1.dst fv).tmps.size=s.sz;rw [put_size];exact hR.size
  · exact fun k hk=>hR.kl k (by have:s.ctr+16≤k:=hk;omega)
  obtain ⟨hsz3,hkl3,S3,m3,hM3,ht3,h03⟩:=hR3;refine wp_ret ?_;have hd4:a3.defers=[d]:=by
    rw [hd3,put_defers];show d::(a.put o1.dst fv).defers=[d];rw [put_defers,hdf]
  show Leaves P fn a3.tmps _ a3.defers .returning w3;rw [hd4];refine leaves_cons (by simp) (f:=g) (args:=#[a.eval (.tmp ta),a.eval (.tmp tb),a.eval (.tmp tc)]) ?_ ?_
  · show (callFunc g (#[] ++ #[a.eval (.tmp ta),a.eval (.tmp tb),a.eval (.tmp tc)])).run P w3=_;rw [Array.empty_append];simp only [callFunc,hg,hb,Sem.run_bind,run_program,Result.andThen_ok,hnm];simp [hb]
  refine (callsD_of_wp (R:=fun e w'=>∃ v,e = .returned v∧Leaves P fn a3.tmps (fun e w'=>∃ v S' m',e = .returned v∧Mem (cxF X.w0 X.S0 X.nl X.rows ls') ((rcv 1000 (mkR xs)).2++lentF X.nl ls') S' m' w'∧VR w' S' m' (rcv 1000 (mkR xs)).1 v) [] .returning w') hg hb ?_).mono ?_
  · rw [hN];refine wp_region_list (evL_okO hT hσ2 (tm0:=s1.tm) (a0:=a3) lc _ s2 vc2 a0 w3 hevc hvc2 ⟨by show (#[a.eval (.tmp ta),a.eval (.tmp tb),a.eval (.tmp tc)]++Array.replicate (N-3) undef).size=N;simp;omega,hkl3,S3,m3,hM3,h03,ht3⟩ fun a4 w4 hd5 hR4=>?_);obtain ⟨hsz4,hkl4,S4,m4,hM4,ht4,h04⟩:=hR4;refine ⟨hd5,.tuple #[],?_,.tuple #[],rfl,?_⟩
    · unfold results;rw [hrg];simp
    unfold ExR at hx;split at hx
    · rename_i ys v0 h1;split at hx
      · rename_i zs e v1 h2;obtain ⟨p1,p2,p3,p4,p5⟩:=hx;have key:RetO P X fn (mkR xs) ls' a3 w4:=exit_ok hT (s:=⟨s1.tm,s2.H,s2.ctr,s1.sz⟩) ⟨S4,m4,hM4.plain,h04⟩ (by rw [hrv];exact h1) p1 h2 p2 p3 p4 p5 (.inl hnl) (by omega) (fun x hx=>by subst hx;simpa using hsg rfl);obtain ⟨v,h1,S',m',h2,h3⟩:=key;obtain ⟨w0,S0,nl,rows,ex,ed⟩:=X;obtain rfl:ex = .nil:=hE;exact ⟨v,h1,v,S',m',rfl,Mem.toF h2 _,h3⟩
      · exact hx.elim
    · exact hx.elim
  · rintro e u' w' ⟨rfl,v,rfl,hv⟩;exact hv
end
end Go.TravelAbs
