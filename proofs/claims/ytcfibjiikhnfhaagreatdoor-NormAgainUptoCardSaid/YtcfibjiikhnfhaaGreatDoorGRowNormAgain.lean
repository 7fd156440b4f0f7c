/-
  recensionlaw13.NormAgain returns true for every input,each argument reads afterwards as before:the statement Rows.NormAgainUptoCardSaid. Conditions:what it reads is of the bulk that the row names,at most.
-/
import Derived.Test.YtcfibjiikhnfhaaGreatDoorU28
namespace Go.Proofs.YtcfibjiikhnfhaaGreatDoor.lawNormAgain
open Go.ChangeShapes Go.WideShapes Go.ChangeAt Go.RowKit
set_option linter.unusedVariables false
set_option maxHeartbeats 4000000 in
set_option maxRecDepth 100000 in
theorem contract (H:Type) (enc:TypeId×Value→H) (W:World) (base:Nat) (args:Array Value) (ds gs:List (DataW H)) (before:List MemPlace)
    (hval:∀(j:Nat) t v,Tryz.f3.params[j]? =some t→args[j]? =some v→Value.okWide Tryz.prog W .any base t v)
    (hW:DataW.Whole enc Tryz.prog Tryz.f3.params.toList Rows.normAgainSpec.vars false W args.toList ds gs before) (hk:Rows.uptoBulkAll (ds++gs)≤1048576) (G:EN W∧GlobE W):
    Calls Tryz.prog 3 args W fun e W'=>∃v,e= .returned v∧Rows.normAgainSpec.post enc Tryz.prog Tryz.f3 false true false false W args v W':=by
  have hW':=hW
  obtain⟨p,q,hA0,hV,rfl,hfz,hnd⟩:=hW
  have hA:DataW.TrodAll enc Tryz.prog W 0 (fun _=>true) true Tryz.f3.params.toList args.toList ds p:=hA0
  rw[Tryz.params3]at hA hval
  obtain⟨v0,vs0,d0,ds0,p0,q0,hargs0,rfl,rfl,h0,r0⟩:=trodAll_cons hA
  obtain⟨v1,vs1,d1,ds1,p1,q1,rfl,rfl,rfl,h1,r1⟩:=trodAll_cons r0
  obtain⟨rfl,rfl,rfl⟩:=trodAll_nil r1
  obtain rfl:args= #[v0,v1]:=by cases args;simp_all
  obtain⟨rfl,rfl⟩:=trodVars_none hV
  obtain⟨m0,t0⟩:=h0
  obtain⟨u0,l0,e0,c0,b0⟩:=open_rules t0
  obtain rfl:=slice_arg Tryz.underlying22 (hval 0 22 v0 rfl rfl) e0
  dsimp only at b0
  obtain⟨m1,t1⟩:=h1
  obtain⟨cs1,rfl,_⟩:=okWide_struct Tryz.underlying26 (hval 1 26 v1 rfl rfl)
  obtain⟨n,va,vk,e1,hva,hvk,b1⟩:=open_nodeV t1
  have e1':cs1.toList=_:=e1
  obtain rfl:cs1= #[.int .i64 n.kind,.string (bs n.name),.string (bs n.text),va,vk]:=by rw[←Array.toList_inj,e1']
  dsimp only at b1
  simp only[List.append_nil,Rows.uptoBulkAll]at hk
  unfold QNd at b1
  refine(nagain_walk l0 n (rules_b b0 (by omega)) (by have:=qs_len b0;omega) (by omega) (fun _=>True) (fun _=>True) v0 va vk W G.1 G.2 c0 hva hvk).mono fun e W' ⟨he,hB⟩=> ?_
  subst he
  have hlt:=hW'.lt
  have hargs:DataW.TrodAll enc Tryz.prog W' 0 (fun b=>decide (b< W.heap.size)) true [22,26] [v0,.agg #[.int .i64 n.kind,.string (bs n.name),.string (bs n.text),va,vk]] [d0,d1] (p0++(p1++ [])):=by
    refine trodAll_later (ext_same hB) (hA.respare (kids_rows laidOutP rowedP) slicesP (fun t ht=> ?_) fun x hx=>decide_eq_true (hlt x (by simpa using hx)))
    have ht':t∈ [22,26]:=ht
    simp only[List.mem_cons,List.not_mem_nil,or_false]at ht'
    rcases ht' with rfl | rfl<;> (rw[typesN];decide)
  exact⟨_,rfl,_,_,_,[],_,[],hW',trodAll_cons_mk (shut_bool Tryz.underlying4 _) trodAll_mk0,hargs,rfl,Below.frame hB _,fun h=>by cases h⟩
theorem reads (os:Os) {H:Type} (enc:TypeId×Value→H):∃places,DataW.whole enc Tryz.prog ((laidWorld os).forCall (fun _ _=>0) ⟨#[],#[.slice none 0 0,.agg #[.int .i64 0,.string ⟨#[]⟩,.string ⟨#[]⟩,.slice none 0 0,.slice none 0 0]],[]⟩).memory Tryz.f3.params.toList Rows.normAgainSpec.vars false (#[.slice none 0 0,.agg #[.int .i64 0,.string ⟨#[]⟩,.string ⟨#[]⟩,.slice none 0 0,.slice none 0 0]]:Array Value).toList 8=some ([.nil,.agg [.lit (.int .i64 0),.lit (.string []),.lit (.string []),.nil,.nil]],[],places):=
  ⟨[],by kernel_rfl⟩
set_option maxRecDepth 100000 in
theorem lifted (os:Os) (started:os.Started) (H:Type) (enc:TypeId×Value→H) (F:Stop.Interp):
    ReturnsInHanded {} Tryz.checked os 3 .any ((Rows.OpenSpec.upto Rows.normAgainSpec).preRow enc Tryz.prog Tryz.f3 Rows.normAgainUptoRow.domain false Rows.normAgainUptoRow.laid) (((Rows.OpenSpec.upto Rows.normAgainSpec).at F).post enc Tryz.prog Tryz.f3 false true false false):=by
  obtain⟨places,hx⟩:=reads os enc
  refine returnsInHanded_of_row (C:=Tryz.checked) (s:=Rows.OpenSpec.upto Rows.normAgainSpec) own started (by kernel_rfl) Tryz.func3
    (witness_row_atRef (enc:=enc) (C:=Tryz.checked) false (laidWorld os) #[.slice none 0 0,.agg #[.int .i64 0,.string ⟨#[]⟩,.string ⟨#[]⟩,.slice none 0 0,.slice none 0 0]] rfl (by kernel_rfl) (by kernel_rfl) (by kernel_rfl)
      (OpenSpec.preRow_of_cond 8 hx (by kernel_rfl) (fun k hk=>by cases hk;kernel_rfl) (by kernel_rfl) (laid_met os _))) ?_
  intro W base args ds gs before hval hW _ hcond _ hL hsh _
  have hb:=of_decide_eq_true (hcond _ rfl)
  exact contract H enc W base args ds gs before hval hW hb ⟨env_of hL hsh,globE_of hL⟩
theorem said:Rows.NormAgainUptoSaid:=
  OpenClaim.holds_of_cond 3 Tryz.f3 rfl rfl rfl rfl rfl rfl rfl ⟨rfl,rfl,rfl,rfl,rfl⟩ rfl rfl rfl rfl rfl (by kernel_rfl) Tryz.func3 (by kernel_rfl)
    (of_decide_eq_true (by kernel_rfl)) (by unfold Func.isWrapper;first | (rw[if_pos (by decide+kernel)];kernel_rfl) | (rw[if_neg (by decide+kernel)];exact⟨rfl,rfl⟩))
    (fun os started H enc _ F=>by rw[OpenClaim.pre_eq_preRow];exact lifted os started H enc F)
theorem plain (f : FuncId) (fn : Func) (hf : Tryz.pinned.checked.prog.funcNamed "recension/recensionlaw13.NormAgain" = some f) (hfn : Tryz.pinned.checked.prog.funcs[f]? = some fn) :
    true=Tryz.pinned.checked.prog.looks []∧∀(j:Nat) t,fn.params[j]? =some t→Tryz.pinned.checked.prog.wantsStandIn t=false:=by
  obtain rfl : f = 3 := Option.some.inj ((show Tryz.prog.funcNamed "recension/recensionlaw13.NormAgain" = some 3 by kernel_rfl).symm.trans hf) |>.symm
  obtain rfl:fn=Tryz.f3:=(Option.some.inj (Tryz.func3.symm.trans hfn)).symm
  refine⟨by kernel_rfl,fun j t ht=> ?_⟩
  rw[Tryz.params3]at ht
  have hm:t∈ [22,26]:=by simpa using Array.mem_of_getElem? ht
  have hall:([22,26].all fun u=> !Tryz.prog.wantsStandIn u)=true:=by kernel_rfl
  exact(show Tryz.prog.wantsStandIn t=false by simpa using List.all_eq_true.1 hall t hm)
theorem card:Rows.NormAgainUptoCardSaid:=
  Claim7.holds_tied_plain_at .later [] _ _ _ _ said (fun _ h=>by cases h) (by kernel_rfl) (fun _ h=>by cases h) normAgainUpto_row_tie rfl ⟨rfl,rfl⟩ (by kernel_rfl) rfl plain (by kernel_rfl)
#print axioms card
end Go.Proofs.YtcfibjiikhnfhaaGreatDoor.lawNormAgain
