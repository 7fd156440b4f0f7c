/-
  recensionlaw29.IndexParts returns true for every input,each argument reads afterwards as before:the statement Rows.IndexPartsUptoCardSaid. Conditions:what it reads is of the bulk that the row names,at most.
-/
import Derived.Test.YtngmgjodcnknoaaGreatDoorU10
import Derived.Test.YtngmgjodcnknoaaGreatDoorU31
namespace Go.Proofs.YtngmgjodcnknoaaGreatDoor.lawIndexParts
open Go.ChangeShapes Go.WideShapes Go.ChangeAt Go.RowKit
set_option linter.unusedVariables false
set_option maxHeartbeats 4000000 in
set_option maxRecDepth 100000 in
theorem contract (H:Type) (enc:TypeId×Value→H) (W:World) (base:Nat) (args:Array Value) (ds gs:List (DataW H)) (before:List MemPlace)
    (hval:∀(j:Nat) t v,Tryz.f5.params[j]? =some t→args[j]? =some v→Value.okWide Tryz.prog W .any base t v)
    (hW:DataW.Whole enc Tryz.prog Tryz.f5.params.toList Rows.indexPartsSpec.vars false W args.toList ds gs before) (hk:Rows.uptoBulkAll (ds++gs)≤1048576) (G:∃mx,W.cell? ⟨0,0,none⟩=some (.int .i64 mx)):
    Calls Tryz.prog 5 args W fun e W'=>∃v,e= .returned v∧Rows.indexPartsSpec.post enc Tryz.prog Tryz.f5 false true false false W args v W':=by
  have hW':=hW
  obtain⟨p,q,hA0,hV,rfl,hfz,hnd⟩:=hW
  have hA:DataW.TrodAll enc Tryz.prog W 0 (fun _=>true) true Tryz.f5.params.toList args.toList ds p:=hA0
  rw[Tryz.params5]at hA hval
  obtain⟨v0,vs0,d0,ds0,p0,q0,hargs0,rfl,rfl,h0,r0⟩:=trodAll_cons hA
  obtain⟨v1,vs1,d1,ds1,p1,q1,rfl,rfl,rfl,h1,r1⟩:=trodAll_cons r0
  obtain⟨v2,vs2,d2,ds2,p2,q2,rfl,rfl,rfl,h2,r2⟩:=trodAll_cons r1
  obtain⟨rfl,rfl,rfl⟩:=trodAll_nil r2
  obtain rfl:args= #[v0,v1,v2]:=by cases args;simp_all
  obtain⟨rfl,rfl⟩:=trodVars_none hV
  obtain⟨m0,t0⟩:=h0
  obtain⟨u0,l0,e0,c0,b0⟩:=open_rules t0
  obtain rfl:=slice_arg Tryz.underlying22 (hval 0 22 v0 rfl rfl) e0
  dsimp only at b0
  obtain⟨m1,t1⟩:=h1
  obtain⟨u1,l1,e1,c1,b1⟩:=open_nodes t1
  obtain rfl:=slice_arg Tryz.underlying23 (hval 1 23 v1 rfl rfl) e1
  dsimp only at b1
  obtain⟨m2,t2⟩:=h2
  obtain⟨cs2,rfl⟩:=arr_arg Tryz.underlying56 (hval 2 56 v2 rfl rfl)
  obtain⟨pa,pb,e2,b2⟩:=open_pair t2
  have e2':cs2.toList=_:=e2
  obtain rfl:cs2= #[.string (bs pa),.string (bs pb)]:=by rw[←Array.toList_inj,e2']
  dsimp only at b2
  simp only[List.append_nil,Rows.uptoBulkAll]at hk
  refine(parts_walk l0 (rules_b b0 (by omega)) (by have:=qs_len b0;omega) l1 (nodes_b b1 (by omega)) pa pb (by omega) (by omega) (fun _=>True) v0 v1 W c0 c1 G (World.block_lt_of_cell? W _ G.choose_spec)).mono fun e W' ⟨he,hB⟩=> ?_
  subst he
  have hlt:=hW'.lt
  have hargs:DataW.TrodAll enc Tryz.prog W' 0 (fun b=>decide (b< W.heap.size)) true [22,23,56] [v0,v1,.agg #[.string (bs pa),.string (bs pb)]] [d0,d1,d2] (p0++(p1++(p2++ []))):=by
    refine trodAll_later (ext_same hB) (hA.respare (kids_rows laidOutP rowedP) slicesP (fun t ht=> ?_) fun x hx=>decide_eq_true (hlt x (by simpa using hx)))
    have ht':t∈ [22,23,56]:=ht
    simp only[List.mem_cons,List.not_mem_nil,or_false]at ht'
    rcases ht' with rfl | rfl | rfl<;> (rw[typesN];decide)
  exact⟨_,rfl,_,_,_,[],_,[],hW',trodAll_cons_mk (shut_bool Tryz.underlying4 _) trodAll_mk0,hargs,rfl,Below.frame hB _,fun h=>by cases h⟩
theorem reads (os:Os) {H:Type} (enc:TypeId×Value→H):∃places,DataW.whole enc Tryz.prog ((laidWorld os).forCall (fun _ _=>0) ⟨#[],#[.slice none 0 0,.slice none 0 0,.agg #[.string ⟨#[]⟩,.string ⟨#[]⟩]],[]⟩).memory Tryz.f5.params.toList Rows.indexPartsSpec.vars false (#[.slice none 0 0,.slice none 0 0,.agg #[.string ⟨#[]⟩,.string ⟨#[]⟩]]:Array Value).toList 8=some ([.nil,.nil,.agg [.lit (.string []),.lit (.string [])]],[],places):=
  ⟨[],by kernel_rfl⟩
set_option maxRecDepth 100000 in
theorem lifted (os:Os) (started:os.Started) (H:Type) (enc:TypeId×Value→H) (F:Stop.Interp):
    ReturnsInHanded {} Tryz.checked os 5 .any ((Rows.OpenSpec.upto Rows.indexPartsSpec).preRow enc Tryz.prog Tryz.f5 Rows.indexPartsUptoRow.domain false Rows.indexPartsUptoRow.laid) (((Rows.OpenSpec.upto Rows.indexPartsSpec).at F).post enc Tryz.prog Tryz.f5 false true false false):=by
  obtain⟨places,hx⟩:=reads os enc
  refine returnsInHanded_of_row (C:=Tryz.checked) (s:=Rows.OpenSpec.upto Rows.indexPartsSpec) own started (by kernel_rfl) Tryz.func5
    (witness_row_atRef (enc:=enc) (C:=Tryz.checked) false (laidWorld os) #[.slice none 0 0,.slice none 0 0,.agg #[.string ⟨#[]⟩,.string ⟨#[]⟩]] rfl (by kernel_rfl) (by kernel_rfl) (by kernel_rfl)
      (OpenSpec.preRow_of_cond 8 hx (by kernel_rfl) (fun k hk=>by cases hk;kernel_rfl) (by kernel_rfl) (laid_met os _))) ?_
  intro W base args ds gs before hval hW _ hcond _ hL hsh _
  have hb:=of_decide_eq_true (hcond _ rfl)
  exact contract H enc W base args ds gs before hval hW hb (max_of hsh)
theorem said:Rows.IndexPartsUptoSaid:=
  OpenClaim.holds_of_cond 5 Tryz.f5 rfl rfl rfl rfl rfl rfl rfl ⟨rfl,rfl,rfl,rfl,rfl⟩ rfl rfl rfl rfl rfl (by kernel_rfl) Tryz.func5 (by kernel_rfl)
    (of_decide_eq_true (by kernel_rfl)) (by unfold Func.isWrapper;first | (rw[if_pos (by decide+kernel)];kernel_rfl) | (rw[if_neg (by decide+kernel)];exact⟨rfl,rfl⟩))
    (fun os started H enc _ F=>by rw[OpenClaim.pre_eq_preRow];exact lifted os started H enc F)
theorem plain (f : FuncId) (fn : Func) (hf : Tryz.pinned.checked.prog.funcNamed "recension/recensionlaw29.IndexParts" = some f) (hfn : Tryz.pinned.checked.prog.funcs[f]? = some fn) :
    false=Tryz.pinned.checked.prog.looks []∧∀(j:Nat) t,fn.params[j]? =some t→Tryz.pinned.checked.prog.wantsStandIn t=false:=by
  obtain rfl : f = 5 := Option.some.inj ((show Tryz.prog.funcNamed "recension/recensionlaw29.IndexParts" = some 5 by kernel_rfl).symm.trans hf) |>.symm
  obtain rfl:fn=Tryz.f5:=(Option.some.inj (Tryz.func5.symm.trans hfn)).symm
  refine⟨by kernel_rfl,fun j t ht=> ?_⟩
  rw[Tryz.params5]at ht
  have hm:t∈ [22,23,56]:=by simpa using Array.mem_of_getElem? ht
  have hall:([22,23,56].all fun u=> !Tryz.prog.wantsStandIn u)=true:=by kernel_rfl
  exact(show Tryz.prog.wantsStandIn t=false by simpa using List.all_eq_true.1 hall t hm)
theorem card:Rows.IndexPartsUptoCardSaid:=
  Claim7.holds_tied_plain_at .later [] _ _ _ _ said (fun _ h=>by cases h) (by kernel_rfl) (fun _ h=>by cases h) indexPartsUpto_row_tie rfl ⟨rfl,rfl⟩ (by kernel_rfl) rfl plain (by kernel_rfl)
#print axioms card
end Go.Proofs.YtngmgjodcnknoaaGreatDoor.lawIndexParts
