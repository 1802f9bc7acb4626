/-
  The statement HeaderlinkReliable is proved: for all numbers radiolinklaw12.HeaderlinkReliable returns true. No condition but that the map of check's polynomials is as the program's text lays it, to which the card ties it.
-/
import Derived.Test.YtndpmpnmkpaklaaGreatDoorTie
import Derived.Test.YtndpmpnmkpaklaaGreatDoorCards
import Derived.SevenTiedAt
import Derived.Test.YtndpmpnmkpaklaaGreatDoorHr39
set_option linter.all false
namespace Go.Proofs.YtndpmpnmkpaklaaGreatDoor.headerlinkReliable
open Go.ChangeShapes Go.WideShapes Go.ChangeAt Go.RowKit
theorem own:ownKnob Tryz.prog.godebug=none:=by kernel_rfl
theorem laidOut:laidOutB Tryz.prog=true:=by kernel_rfl
set_option maxRecDepth 100000 in
theorem lifted(os:Os)(started:os.Started)(H:Type)(enc:TypeId×Value→H) :
   ReturnsInHanded {} Tryz.checked os 3 .any (fun w args=>(Rows.headerlinkReliableSpec.pre enc Tryz.prog Tryz.f3 [] false w args∧laidMetH Tryz.prog [("radiolink/check.polynomials",Rows.laid_radiolink_check_polynomials)] w)∧sizedMet enc Tryz.prog Tryz.f3 (OpenSpec.ofChange Rows.headerlinkReliableSpec) false w args)
     (Rows.headerlinkReliableSpec.post enc Tryz.prog Tryz.f3 false true false false):=by
 refine returnsInHanded_of_change_and (C:=Tryz.checked) (X:=fun w _=>laidMetH Tryz.prog [("radiolink/check.polynomials",Rows.laid_radiolink_check_polynomials)] w) (fun _ _ _ hh h=>h.of_heap hh) own started (by kernel_rfl) Tryz.func3
   (ChangeSpec.witness_shaped (enc:=enc) (C:=Tryz.checked) (os:=os) (X:=fun w _=>laidMetH Tryz.prog [("radiolink/check.polynomials",Rows.laid_radiolink_check_polynomials)] w) false (World.doorLaid Tryz.prog 400 os) #[.slice none 0 0,.int .i64 0] 8 rfl (World.shaped_of_RefB (by kernel_rfl) (by kernel_rfl)) (by kernel_rfl) (by kernel_rfl) (by kernel_rfl) (door_met os _)) ?_
 intro W base args ds gs before hval0 hW _ _ hL _
 have hval:∀(j:Nat) t v,Tryz.f3.params[j]? = some t→args[j]? = some v→Value.okWide Tryz.prog W .any base t v:=hval0
 have hW':=hW
 obtain⟨p,q,hA0,hV,rfl,hfz,hnd⟩:=hW
 have hA:DataW.TrodAll enc Tryz.prog W 0 (fun _=>true) true Tryz.f3.params.toList args.toList ds p:=hA0
 rw[Tryz.params3] at hA hval
 obtain⟨v0,vs0,d0,ds0,p0,q0,hargs,rfl,rfl,h0,r0⟩:=trodAll_cons hA
 obtain⟨v1,vs1,d1,ds1,p1,q1,rfl,rfl,rfl,h1,r1⟩:=trodAll_cons r0
 obtain⟨rfl,rfl,rfl⟩:=trodAll_nil r1
 obtain rfl:args=#[v0,v1]:=by cases args;simp_all
 obtain⟨rfl,rfl⟩:=trodVars_none hV
 have lt0:∀x∈p0,x.block<W.heap.size:=by obtain⟨m,hm⟩:=h0;exact DataW.trod_lt m _ _ _ hm
 have lt1:∀x∈p1,x.block<W.heap.size:=by obtain⟨m,hm⟩:=h1;exact DataW.trod_lt m _ _ _ hm
 obtain⟨x0,k0⟩:=arg_ints Tryz.underlying22 Tryz.underlying3 (by kernel_rfl) (hval 0 22 v0 rfl rfl) h0
 obtain⟨x1,k1⟩:=arg_int Tryz.underlying3 (hval 1 3 v1 rfl rfl) h1
 clear hA0 hval0
 refine((rely12_c x0 x1).stmt (polys_of hL) (.cons0 k0 (.cons0 k1 .nil0))).mono fun e W' ⟨he,bel⟩=>?_
 subst he
 exact⟨_,rfl,_,_,_,[],_,[],hW',trodAll_mk1 (shut_bool Tryz.underlying4 _),(trodAll_cons_mk (Below.trod laidOut (by kernel_rfl) (of_decide_eq_true (by kernel_rfl)) h0 bel lt0) (trodAll_cons_mk (Below.trod laidOut (by kernel_rfl) (of_decide_eq_true (by kernel_rfl)) h1 bel lt1) trodAll_mk0)),rfl,bel.frame _,fun h=>by cases h⟩
theorem proved:Rows.HeaderlinkReliableSaid :=
 OpenClaim.holds_of_wide 3 Tryz.f3 rfl rfl rfl rfl rfl rfl rfl ⟨rfl,rfl,rfl,rfl,rfl⟩ rfl rfl rfl rfl rfl (by kernel_rfl) Tryz.func3 (by kernel_rfl)
   (of_decide_eq_true (by kernel_rfl)) (by unfold Func.isWrapper;first|(rw[if_pos (by decide +kernel)];kernel_rfl)|(rw[if_neg (by decide +kernel)];exact⟨rfl,rfl⟩))
   (fun os started H enc _=>lifted os started H enc)
theorem carded:Rows.HeaderlinkReliableCardSaid :=
 Claim7.holds_tied_plain_at .later [] [.mapped] true Rows.headerlinkReliableCard.stood.harness false
   proved (fun _ h=>by cases h) (by kernel_rfl) (fun _ h=>by cases h) headerlinkReliable_row_tie rfl ⟨rfl,rfl⟩ (by kernel_rfl) rfl
   (fun f fn hf hfn=>by
     obtain rfl:f=3:=Option.some.inj ((show Tryz.prog.funcNamed "radiolink/radiolinklaw12.HeaderlinkReliable"=some 3 by kernel_rfl).symm.trans hf) |>.symm
     obtain rfl:fn=Tryz.f3:=(Option.some.inj (Tryz.func3.symm.trans hfn)).symm
     exact⟨by kernel_rfl,fun j t ht=>by
       rw[Tryz.params3] at ht
       have hm:t∈([22,3]:List Nat):=by simpa using Array.mem_of_getElem? ht
       have hall:(([22,3]:List Nat).all fun u => !Tryz.prog.wantsStandIn u)=true:=by kernel_rfl
       exact(show Tryz.prog.wantsStandIn t=false by simpa using List.all_eq_true.1 hall t hm)⟩)
   (by kernel_rfl)
#print axioms carded
end Go.Proofs.YtndpmpnmkpaklaaGreatDoor.headerlinkReliable
