/- Operations and calls in a larger memory. -/
import Derived.Test.YtblhjcolknooeaaVmMono
namespace Go.VM
set_option linter.unusedVariables false
set_option linter.unusedSimpArgs false
open Go.RowKit
section
variable {R : Type}
theorem partsV_congr {ev ev' : Operand → U} : ∀ (l : List (Nat × Operand)), (∀ x ∈ l.map (·.2), ev' x = ev x) → partsV ev' l = partsV ev l
  | [], _ => rfl
  | (i, x) :: l, h => by
    have h1 := partsV_congr l fun y hy => h y (by simp at hy ⊢; exact .inr hy)
    unfold partsV at h1 ⊢
    rw [List.map_cons, List.map_cons, h1, h x (by simp)]
theorem mapEv_congr {ev ev' : Operand → U} {l : List Operand} (h : ∀ x ∈ l, ev' x = ev x) : l.map ev' = l.map ev := List.map_congr_left h
theorem allEv_congr {ev ev' : Operand → U} : ∀ {l : List Operand}, (∀ x ∈ l, ev' x = ev x) → l.all (fun x => (ev' x).leaf1) = l.all (fun x => (ev x).leaf1)
  | [], _ => rfl
  | x :: l, h => by simp only [List.all_cons, h x List.mem_cons_self, allEv_congr fun y hy => h y (List.mem_cons_of_mem _ hy)]
theorem opS_congr {T : Tab} {ev ev' : Operand → U} {h : Heap} {used : List Nat} {o : Oper} (hev : ∀ x ∈ o.op.operands, ev' x = ev x) : opS T ev' h used o = opS T ev h used o := by
  obtain ⟨dst, op, type, pos, after, guard⟩ := o
  simp only at hev
  cases op with
  | call c =>
    obtain ⟨callee, args, ats⟩ := c
    have ha : ∀ x ∈ args.toList, ev' x = ev x := fun x hx => hev x (by simp [Op.operands, Call.operands]; right; simpa using hx)
    cases callee with
    | value f => rfl
    | invoke r n => rfl
    | builtin b =>
      cases b with
      | len =>
        simp only [opS]
        split
        · rename_i x t ts hx hts
          rw [ha x (by rw [hx]; simp)]
        · rfl
      | append =>
        simp only [opS]
        split
        · rename_i x y t t' hx hts
          rw [ha x (by rw [hx]; simp), ha y (by rw [hx]; simp)]
        · rfl
      | max => simp only [opS]; rw [mapEv_congr ha]
      | min => simp only [opS]; rw [mapEv_congr ha]
      | _ => rfl
  | build t ps => simp only [opS]; rw [partsV_congr _ fun x hx => hev x (by simpa [Op.operands] using hx)]
  | buildSlice t n ps => simp only [opS]; rw [partsV_congr _ fun x hx => hev x (by simpa [Op.operands] using hx)]
  | makeFunc fn first caps =>
    have hc : ∀ x ∈ caps.toList, ev' x = ev x := fun x hx => hev x (by simp [Op.operands]; right; simpa using hx)
    cases fn with
    | func f => simp only [opS]; rw [mapEv_congr hc, allEv_congr hc]
    | _ => rfl
  | slice t x lo hi mx =>
    cases mx with
    | some y => rfl
    | none =>
      simp only [opS]
      have h1 : lo.map ev' = lo.map ev := by
        cases lo with
        | none => rfl
        | some y => simp only [Option.map_some]; rw [hev y (by simp [Op.operands])]
      have h2 : hi.map ev' = hi.map ev := by
        cases hi with
        | none => rfl
        | some y => simp only [Option.map_some]; rw [hev y (by simp [Op.operands])]
      rw [h1, h2, hev x (by simp [Op.operands])]
  | pick c a b => simp only [opS]; rw [hev c (by simp [Op.operands]), hev a (by simp [Op.operands]), hev b (by simp [Op.operands])]
  | store t a x => simp only [opS]; rw [hev a (by simp [Op.operands]), hev x (by simp [Op.operands])]
  | binOp op t x y ty => simp only [opS]; rw [hev x (by simp [Op.operands]), hev y (by simp [Op.operands])]
  | makeSlice t l c => simp only [opS]; rw [hev l (by simp [Op.operands])]
  | indexAddr t x i => simp only [opS]; rw [hev x (by simp [Op.operands]), hev i (by simp [Op.operands])]
  | index t x i => simp only [opS]; rw [hev x (by simp [Op.operands]), hev i (by simp [Op.operands])]
  | move x => simp only [opS]; rw [hev x (by simp [Op.operands])]
  | assign x => simp only [opS]; rw [hev x (by simp [Op.operands])]
  | box t x => simp only [opS]; rw [hev x (by simp [Op.operands])]
  | load t x => simp only [opS]; rw [hev x (by simp [Op.operands])]
  | nilCheck x => simp only [opS]; rw [hev x (by simp [Op.operands])]
  | unOp op t x => simp only [opS]; rw [hev x (by simp [Op.operands])]
  | convert s d x => simp only [opS]; rw [hev x (by simp [Op.operands])]
  | fieldAddr s x f => simp only [opS]; rw [hev x (by simp [Op.operands])]
  | field s x f => simp only [opS]; rw [hev x (by simp [Op.operands])]
  | extract x i => simp only [opS]; rw [hev x (by simp [Op.operands])]
  | _ => rfl
theorem opS_mono {T : Tab} {ev : Operand → U} {h h' : Heap} {used used' : List Nat} {o : Oper} {p} (hs : Sub h h') (hf : FreshIn used used' p.2) (hd : altD (opS T ev h used o) = some p) : altD (opS T ev h' used' o) = some p := by
  obtain ⟨dst, op, type, pos, after, guard⟩ := o
  unfold opS at hd ⊢
  simp only at hd ⊢
  split at hd
  · exact hd
  · exact hd
  · exact hd
  · unfold allocV at hd ⊢
    split at hd
    · exact fresh_mono hf hd
    · exact hd
  · unfold boxV at hd ⊢
    split at hd
    · rename_i x _ l ls hl
      cases hfit : fitsAll (l :: ls) (leavesOf (ev x)) with
      | false => rw [hfit] at hd; simp [altD] at hd
      | true => rw [hfit] at hd; simp only [cond_true] at hd ⊢; exact fresh_mono hf hd
    · exact hd
  · exact hd
  · unfold buildSliceV at hd ⊢
    split at hd
    · split at hd
      · rename_i n ps _ e ht _ l ls hl
        cases hb : (Nat.ble (n * wsum ((l :: ls).map Leaf.w)) 16777216 && (partsV ev ps.toList).all (fun p => Nat.blt p.1 n)) with
        | false => rw [hb] at hd; simp [altD] at hd
        | true =>
          rw [hb] at hd
          simp only [cond_true] at hd ⊢
          split at hd
          · exact fresh_mono hf hd
          · exact hd
      · exact hd
    · exact hd
  · exact loadV_mono hs hd
  · exact storeV_mono hs hd
  · exact hd
  · exact hd
  · exact hd
  · exact hd
  · exact hd
  · rename_i t l cc
    cases hso : sameOp l cc with
    | false => rw [hso] at hd; simp [altD] at hd
    | true =>
      rw [hso] at hd
      simp only [cond_true] at hd ⊢
      unfold makeSliceV at hd ⊢
      split at hd
      · split at hd
        · cases hu : has (newId dst) used with
          | true => rw [hu] at hd; simp [altD] at hd
          | false =>
            rw [hu] at hd
            have hn : newId dst ∈ ids p.2 := by
              obtain ⟨b, hm, _⟩ := altD_mem hd
              simp only [cond_false, List.mem_singleton, Prod.mk.injEq] at hm
              rw [hm.2.2]; simp [ids]
            rw [hf _ hn hu]
            exact hd
        · exact hd
      · exact hd
  · exact sliceV_mono hs hd
  · exact fieldAddrV_mono hs hd
  · exact hd
  · exact indexAddrV_mono hs hd
  · exact hd
  · exact hd
  · split at hd
    · exact lenV_mono hs hd
    · exact hd
  · split at hd
    · exact appendV_mono hs hf hd
    · exact hd
  · exact hd
  · exact hd
  · exact hd
theorem sub_look {h h' : Heap} (hs : Sub h h') {i : Nat} (hi : hasOb h i = true) : look i h' = look i h := by
  obtain ⟨ob, hl⟩ := hasOb_iff.1 hi
  rw [hl, hs _ _ hl]
theorem flatMap_congr {α β : Type} {f g : α → List β} : ∀ {l : List α}, (∀ x ∈ l, f x = g x) → l.flatMap f = l.flatMap g
  | [], _ => rfl
  | x :: l, h => by rw [List.flatMap_cons, List.flatMap_cons, h x List.mem_cons_self, flatMap_congr fun y hy => h y (List.mem_cons_of_mem _ hy)]
theorem mentU_mono {h h' : Heap} (hs : Sub h h') : ∀ d u, (∀ i ∈ mentU h d u, hasOb h i = true) → mentU h' d u = mentU h d u := by
  intro d
  induction d with
  | zero => intro u _; simp [mentU]
  | succ d ih =>
    intro u hu
    have cols : ∀ (cs : List Col), (∀ i ∈ cs.flatMap (mentC (mentU h d)), hasOb h i = true) → cs.flatMap (mentC (mentU h' d)) = cs.flatMap (mentC (mentU h d)) := by
      intro cs hc
      refine flatMap_congr fun c hcm => ?_
      cases c with
      | us l => exact flatMap_congr fun x hx => ih x fun i hi => hc i (List.mem_flatMap.2 ⟨.us l, hcm, List.mem_flatMap.2 ⟨x, hx, hi⟩⟩)
      | _ => rfl
    have one : ∀ i, (∀ j ∈ i :: (match look i h with | some ob => ob.cols.flatMap (mentC (mentU h d)) | none => []), hasOb h j = true) →
        i :: (match look i h' with | some ob => ob.cols.flatMap (mentC (mentU h' d)) | none => []) = i :: (match look i h with | some ob => ob.cols.flatMap (mentC (mentU h d)) | none => []) := by
      intro i hj
      have hi := hj i List.mem_cons_self
      rw [sub_look hs hi]
      obtain ⟨ob, hl⟩ := hasOb_iff.1 hi
      rw [hl] at hj ⊢
      simp only
      rw [cols ob.cols fun j h2 => hj j (List.mem_cons_of_mem _ h2)]
    have lst : ∀ (us : List U), (∀ i ∈ us.flatMap (mentU h d), hasOb h i = true) → us.flatMap (mentU h' d) = us.flatMap (mentU h d) := by
      intro us hc
      exact flatMap_congr fun x hx => ih x fun i hi => hc i (List.mem_flatMap.2 ⟨x, hx, hi⟩)
    cases u with
    | own i => simp only [mentU] at hu ⊢; exact one i hu
    | sl i a b => simp only [mentU] at hu ⊢; exact one i hu
    | ptr i e o j m => simp only [mentU] at hu ⊢; exact one i hu
    | fn f us => simp only [mentU] at hu ⊢; exact lst us hu
    | agg us => simp only [mentU] at hu ⊢; exact lst us hu
    | tup us => simp only [mentU] at hu ⊢; exact lst us hu
    | _ => simp [mentU]
theorem mentV_mono {h h' : Heap} (hs : Sub h h') (u : U) (hu : ∀ i ∈ mentV h u, hasOb h i = true) : mentV h' u = mentV h u := by
  cases u with
  | agg us => exact flatMap_congr fun x hx => mentU_mono hs 4 x fun i hi => hu i (List.mem_flatMap.2 ⟨x, hx, hi⟩)
  | _ => exact mentU_mono hs 4 _ hu
theorem listM_mono {α β : Type} {f g : α → Option β} : ∀ {l : List α} {m : List β}, (∀ x ∈ l, ∀ y, f x = some y → g x = some y) → listM f l = some m → listM g l = some m
  | [], m, _, h => h
  | x :: l, m, hfg, h => by
    simp only [listM] at h ⊢
    cases h1 : f x with
    | none => rw [h1] at h; simp at h
    | some b =>
      cases h2 : listM f l with
      | none => rw [h1, h2] at h; simp at h
      | some m' =>
        rw [h1, h2] at h
        rw [hfg x List.mem_cons_self b h1, listM_mono (fun y hy => hfg y (List.mem_cons_of_mem _ hy)) h2]
        exact h
theorem expU_mono {h h' : Heap} (hs : Sub h h') : ∀ d u u', expU h d u = some u' → expU h' d u = some u' := by
  intro d
  induction d with
  | zero => intro u u' he; simp [expU] at he
  | succ d ih =>
    intro u u' he
    have colm : ∀ {cs cs' : List Col}, listM (expCol (expU h d)) cs = some cs' → listM (expCol (expU h' d)) cs = some cs' := by
      intro cs cs'
      refine listM_mono fun c _ c' hc => ?_
      unfold expCol at hc ⊢
      split at hc
      · split at hc
        · rename_i m hm
          rw [listM_mono (fun x _ y hxy => ih x y hxy) hm]
          exact hc
        · simp at hc
      · exact hc
    cases u with
    | own i =>
      simp only [expU] at he ⊢
      cases hk : look i h with
      | none => rw [hk] at he; simp at he
      | some ob =>
        rw [hk] at he
        rw [hs _ _ hk]
        simp only at he ⊢
        cases hc : listM (expCol (expU h d)) ob.cols with
        | none => rw [hc] at he; simp at he
        | some cs => rw [hc] at he; rw [colm hc]; exact he
    | sl i a b =>
      simp only [expU] at he ⊢
      cases hk : look i h with
      | none => rw [hk] at he; simp at he
      | some ob =>
        rw [hk] at he
        rw [hs _ _ hk]
        simp only at he ⊢
        cases hc : listM (expCol (expU h d)) (ob.cols.map fun c => (c.drop a).take b) with
        | none => rw [hc] at he; simp at he
        | some cs => rw [hc] at he; rw [colm hc]; exact he
    | ptr i e o j m =>
      simp only [expU] at he ⊢
      cases hk : look i h with
      | none => rw [hk] at he; simp at he
      | some ob =>
        rw [hk] at he
        rw [hs _ _ hk]
        cases j with
        | succ j => simp at he
        | zero =>
          simp only at he ⊢
          cases hc : listM (expU h d) ((ob.cols.drop o).map (·.get e)) with
          | none => rw [hc] at he; simp at he
          | some us => rw [hc] at he; rw [listM_mono (fun x _ y hxy => ih x y hxy) hc]; exact he
    | fn f us =>
      simp only [expU] at he ⊢
      cases hc : listM (expU h d) us with
      | none => rw [hc] at he; simp at he
      | some us' => rw [hc] at he; rw [listM_mono (fun x _ y hxy => ih x y hxy) hc]; exact he
    | _ => exact he
theorem expV_mono {h h' : Heap} (hs : Sub h h') {u u'} (he : expV h u = some u') : expV h' u = some u' := by
  cases u with
  | agg us =>
    simp only [expV] at he ⊢
    cases hc : listM (expU h 4) us with
    | none => rw [hc] at he; simp at he
    | some us' => rw [hc] at he; rw [listM_mono (fun x _ y hxy => expU_mono hs 4 x y hxy) hc]; exact he
  | _ => exact expU_mono hs 4 _ _ he
/-- A call's answer, told directly. -/
def callD (D : Nat → List U → Heap → Option (U × Heap)) (io : Nat → Bool) (h : Heap) (used : List Nat) (dst : Option Nat) (f : Nat) (args : List U) : Option (U × Delta) :=
  let l := dedup (args.flatMap (mentV h)) []
  bif l.all (hasOb h) then
    bif io f then
      bif allRw h l && nodupN l && args.all U.v1 && Nat.ble l.length 900 then (match D f (args.map (renV1 (renTo 0 l))) (keepH (renTo 0 l) h l) with
        | some (r, H) => bif allFresh used (fun i => l[i]?) dst H && nodupN (H.map (·.1)) && H.all (fun p => p.2.rw) && !roV r && !roH H then
            some ((takeIn dst (fun i => l[i]?) r H).1, l.map (fun i => (i, none)) ++ (takeIn dst (fun i => l[i]?) r H).2) else none
        | none => none)
      else none
    else match listM (expV h) args with
      | some us => (match D f us [] with
        | some (r, H) => bif allFresh used (fun _ => none) dst H && nodupN (H.map (·.1)) && H.all (fun p => p.2.rw) then
            some ((takeIn dst (fun _ => none) r H).1, (bif roV r || roH H then demote h l else []) ++ (takeIn dst (fun _ => none) r H).2) else none
        | none => none)
      | none => none
  else none
theorem callK_law {E : Env R} {r : R} {D} (hD : ∀ f us HA k, E.tf f us HA k = some r ↔ ∃ p, D f us HA = some p ∧ k p.1 p.2 = some r) (h used dst f args k) :
    callK E h used dst f args k = some r ↔ ∃ p, callD D E.io h used dst f args = some p ∧ k p.1 p.2 = some r := by
  unfold callK callD
  simp only
  cases (dedup (args.flatMap (mentV h)) []).all (hasOb h) with
  | false => simp
  | true =>
    simp only [cond_true]
    cases E.io f with
    | true =>
      simp only [cond_true]
      cases (allRw h (dedup (args.flatMap (mentV h)) []) && nodupN (dedup (args.flatMap (mentV h)) []) && args.all U.v1 && Nat.ble (dedup (args.flatMap (mentV h)) []).length 900) with
      | false => simp
      | true =>
        simp only [cond_true]
        rw [hD]
        cases D f (args.map (renV1 (renTo 0 (dedup (args.flatMap (mentV h)) [])))) (keepH (renTo 0 (dedup (args.flatMap (mentV h)) [])) h (dedup (args.flatMap (mentV h)) [])) with
        | none => simp
        | some q =>
          obtain ⟨u, H⟩ := q
          simp only [Option.some.injEq, exists_eq_left']
          cases (allFresh used (fun i => (dedup (args.flatMap (mentV h)) [])[i]?) dst H && nodupN (H.map (·.1)) && H.all (fun p => p.2.rw) && !roV u && !roH H) <;> simp
    | false =>
      simp only [cond_false]
      cases listM (expV h) args with
      | none => simp
      | some us =>
        simp only
        rw [hD]
        cases D f us [] with
        | none => simp
        | some q =>
          obtain ⟨u, H⟩ := q
          simp only [Option.some.injEq, exists_eq_left']
          cases (allFresh used (fun _ => none) dst H && nodupN (H.map (·.1)) && H.all (fun p => p.2.rw)) <;> simp
theorem keepH_congr {f : Nat → Option Nat} {h h' : Heap} (hs : Sub h h') {l : List Nat} (hl : ∀ i ∈ l, hasOb h i = true) : keepH f h' l = keepH f h l := flatMap_congr fun i hi => by rw [sub_look hs (hl i hi)]
theorem demote_congr {h h' : Heap} (hs : Sub h h') {l : List Nat} (hl : ∀ i ∈ l, hasOb h i = true) : demote h' l = demote h l := flatMap_congr fun i hi => by rw [sub_look hs (hl i hi)]
theorem all_congr {α : Type} {p q : α → Bool} : ∀ {l : List α}, (∀ x ∈ l, p x = q x) → l.all p = l.all q
  | [], _ => rfl
  | x :: l, h => by simp only [List.all_cons, h x List.mem_cons_self, all_congr fun y hy => h y (List.mem_cons_of_mem _ hy)]
theorem allFresh_mono {used used' : List Nat} {back : Nat → Option Nat} {dst : Option Nat} {H : Heap} {r : U} {pre : Delta} (h : allFresh used back dst H = true) (hf : FreshIn used used' (pre ++ (takeIn dst back r H).2)) (hn : ∀ p ∈ H, hasOb H p.1 = true) : allFresh used' back dst H = true := by
  unfold allFresh at h ⊢
  rw [List.all_eq_true] at h ⊢
  intro p hp
  have := h p hp
  cases hb : back p.1 with
  | some j => rfl
  | none =>
    rw [hb] at this
    simp only [Bool.not_eq_true'] at this ⊢
    refine hf _ ?_ this
    unfold ids
    rw [List.map_append, List.mem_append]
    right
    simp only [takeIn, List.map_map, List.mem_map]
    exact ⟨p, hp, by simp [hb, hn p hp]⟩
theorem hasOb_mem {H : Heap} {p : Nat × Obj} (h : p ∈ H) : hasOb H p.1 = true := by
  induction H with
  | nil => simp at h
  | cons q H ih =>
    obtain ⟨j, o⟩ := q
    unfold hasOb
    simp only [look]
    cases hb : Nat.beq p.1 j with
    | true => rfl
    | false =>
      rcases List.mem_cons.1 h with e | h
      · subst e; simp at hb
      · exact ih h
theorem callD_mono {D io h h' used used' dst f args p} (hs : Sub h h') (hf : FreshIn used used' p.2) (hd : callD D io h used dst f args = some p) : callD D io h' used' dst f args = some p := by
  unfold callD at hd ⊢
  simp only at hd ⊢
  cases hall : (dedup (args.flatMap (mentV h)) []).all (hasOb h) with
  | false => rw [hall] at hd; simp at hd
  | true =>
    rw [hall] at hd
    simp only [cond_true] at hd
    have hm : ∀ i ∈ args.flatMap (mentV h), hasOb h i = true := fun i hi => List.all_eq_true.1 hall i (mem_dedup.2 (.inl hi))
    have e1 : args.flatMap (mentV h') = args.flatMap (mentV h) := flatMap_congr fun u hu => mentV_mono hs u fun i hi => hm i (List.mem_flatMap.2 ⟨u, hu, hi⟩)
    rw [e1]
    generalize hl : dedup (args.flatMap (mentV h)) [] = l at *
    have hlo : ∀ i ∈ l, hasOb h i = true := fun i hi => List.all_eq_true.1 hall i hi
    have hall' : l.all (hasOb h') = true := by
      rw [List.all_eq_true]
      intro i hi
      obtain ⟨ob, h1⟩ := hasOb_iff.1 (hlo i hi)
      exact hasOb_iff.2 ⟨ob, hs _ _ h1⟩
    rw [hall']
    simp only [cond_true]
    cases hio : io f with
    | true =>
      rw [hio] at hd
      simp only [cond_true] at hd ⊢
      have e2 : allRw h' l = allRw h l := all_congr fun i hi => by rw [sub_look hs (hlo i hi)]
      rw [e2, keepH_congr hs hlo]
      cases hg : (allRw h l && nodupN l && args.all U.v1 && Nat.ble l.length 900) with
      | false => rw [hg] at hd; simp at hd
      | true =>
        rw [hg] at hd
        simp only [cond_true] at hd ⊢
        split at hd
        · rename_i r H hD
          cases hc : (allFresh used (fun i => l[i]?) dst H && nodupN (H.map (·.1)) && H.all (fun p => p.2.rw) && !roV r && !roH H) with
          | false => rw [hc] at hd; simp at hd
          | true =>
            rw [hc] at hd
            simp only [cond_true, Option.some.injEq] at hd
            subst hd
            simp only [Bool.and_eq_true] at hc
            have := allFresh_mono hc.1.1.1.1 hf fun p hp => hasOb_mem hp
            simp [this, hc.1.1.1.2, hc.1.1.2, hc.1.2, hc.2]
        · simp at hd
    | false =>
      rw [hio] at hd
      simp only [cond_false] at hd ⊢
      split at hd
      · rename_i us hus
        rw [listM_mono (fun x _ y hxy => expV_mono hs hxy) hus]
        simp only
        split at hd
        · rename_i r H hD
          cases hc : (allFresh used (fun _ => none) dst H && nodupN (H.map (·.1)) && H.all (fun p => p.2.rw)) with
          | false => rw [hc] at hd; simp at hd
          | true =>
            rw [hc] at hd
            simp only [cond_true, Option.some.injEq] at hd
            subst hd
            simp only [Bool.and_eq_true] at hc
            have := allFresh_mono hc.1.1 hf fun p hp => hasOb_mem hp
            rw [demote_congr hs hlo]
            simp [this, hc.1.2, hc.2]
        · simp at hd
      · simp at hd
/-- An operation's answer, told directly. -/
def opD (D : Nat → List U → Heap → Option (U × Heap)) (T : Tab) (io : Nat → Bool) (ev : Operand → U) (h : Heap) (used : List Nat) (o : Oper) : Option (U × Delta) := match calleeOf ev o with
  | some (f, us) => callD D io h used o.dst f us
  | none => altD (opS T ev h used o)
theorem opK_law {E : Env R} {r : R} {D} (hD : ∀ f us HA k, E.tf f us HA k = some r ↔ ∃ p, D f us HA = some p ∧ k p.1 p.2 = some r) (ev h used o k) :
    opK E ev h used o k = some r ↔ ∃ p, opD D E.T E.io ev h used o = some p ∧ k p.1 p.2 = some r := by
  unfold opK opD
  cases calleeOf ev o with
  | none =>
    simp only
    rw [alts_law]
    cases altD (opS E.T ev h used o) with
    | none => simp
    | some p => simp
  | some q => obtain ⟨f, us⟩ := q; exact callK_law hD _ _ _ _ _ _
theorem calleeOf_congr {ev ev' : Operand → U} {o : Oper} (hev : ∀ x ∈ o.op.operands, ev' x = ev x) : calleeOf ev' o = calleeOf ev o := by
  obtain ⟨dst, op, type, pos, after, guard⟩ := o
  simp only at hev
  unfold calleeOf
  simp only
  split
  · rename_i fo args ats
    have h1 : ev' fo = ev fo := hev fo (by simp [Op.operands, Call.operands])
    have h2 : args.toList.map ev' = args.toList.map ev := mapEv_congr fun x hx => hev x (by simp [Op.operands, Call.operands]; right; simpa using hx)
    rw [h1, h2]
  · rfl
theorem opD_mono {D T io ev ev' h h' used used' o p} (hev : ∀ x ∈ o.op.operands, ev' x = ev x) (hs : Sub h h') (hf : FreshIn used used' p.2) (hd : opD D T io ev h used o = some p) : opD D T io ev' h' used' o = some p := by
  unfold opD at hd ⊢
  rw [calleeOf_congr hev]
  split at hd
  · exact callD_mono hs hf hd
  · rw [opS_congr hev]
    exact opS_mono hs hf hd
/-- The objects of the one memory lie in the other in the same shape. -/
def ShSub (h h' : Heap) : Prop := ∀ z ob, look z h = some ob → ∃ ob', look z h' = some ob' ∧ ob'.ws = ob.ws ∧ ob'.n = ob.n
theorem fieldAddrV_shape {T h h' s x f} (hs : ShSub h h') {p} (hd : altD (fieldAddrV T h s x f) = some p) : altD (fieldAddrV T h' s x f) = some p := by
  unfold fieldAddrV at hd ⊢
  split at hd
  · split at hd
    · rename_i hk
      obtain ⟨ob', h1, h2, h3⟩ := hs _ _ hk
      simp only [h1, h2]
      exact hd
    · simp [altD] at hd
  · exact hd
  · simp [altD] at hd
theorem indexAddrV_shape {T h h' t x ix} (hs : ShSub h h') {p} (hd : altD (indexAddrV T h t x ix) = some p) : altD (indexAddrV T h' t x ix) = some p := by
  unfold indexAddrV at hd ⊢
  split at hd
  · exact hd
  · exact hd
  · split at hd
    · rename_i hk hl
      obtain ⟨ob', h1, h2, h3⟩ := hs _ _ hk
      simp only [h1, h2, h3, hl]
      exact hd
    · simp [altD] at hd
  · split at hd
    · rename_i hk hl
      obtain ⟨ob', h1, h2, h3⟩ := hs _ _ hk
      simp only [h1, h2, hl]
      exact hd
    · simp [altD] at hd
  · exact hd
  · simp [altD] at hd
theorem opD_shape {D T io ev ev' h h' used used' o p} (hsh : shapely o.op = true) (hev : ∀ x ∈ o.op.operands, ev' x = ev x) (hs : ShSub h h') (hd : opD D T io ev h used o = some p) : opD D T io ev' h' used' o = some p := by
  unfold opD at hd ⊢
  rw [calleeOf_congr hev]
  split at hd
  · rename_i hc
    obtain ⟨dst, op, type, pos, after, guard⟩ := o
    cases op <;> simp [shapely] at hsh <;> simp [calleeOf] at hc
  · rw [opS_congr hev]
    obtain ⟨dst, op, type, pos, after, guard⟩ := o
    cases op <;> simp [shapely] at hsh
    · simp only [opS] at hd ⊢
      exact fieldAddrV_shape hs hd
    · simp only [opS] at hd ⊢
      exact indexAddrV_shape hs hd
end
end Go.VM
