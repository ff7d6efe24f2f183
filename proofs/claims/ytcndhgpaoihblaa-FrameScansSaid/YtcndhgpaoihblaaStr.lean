/- Strings as lists of bytes: joined, and how long. -/
import Derived.Test.YtcndhgpaoihblaaPlain
namespace Go.Proofs.Ytcndhgpaoihblaa.Fr
theorem app_str (a b : List UInt8) : (⟨a.toArray⟩ : ByteArray) ++ ⟨b.toArray⟩ = ⟨(a ++ b).toArray⟩ := by
  have h : ((⟨a.toArray⟩ : ByteArray) ++ ⟨b.toArray⟩).data = (a ++ b).toArray := by
    rw [ByteArray.data_append]
    simp
  exact congrArg ByteArray.mk h
theorem str_self (s : ByteArray) : (⟨s.data.toList.toArray⟩ : ByteArray) = s := by simp
theorem size_str (a : List UInt8) : (⟨a.toArray⟩ : ByteArray).size = a.length := by show a.toArray.size = _; simp
end Go.Proofs.Ytcndhgpaoihblaa.Fr
