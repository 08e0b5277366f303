/- The chapter's example in plain words, and its file. No program here; no condition. -/
import Derived.Test.YtggplbenliaodaaDoorPlD
import Derived.Test.YtggplbenliaodaaDoorPlA
import Derived.Test.YtggplbenliaodaaDoorPm
namespace Pl
def exPath : Sh := ⟨1, [⟨1, ⟨0, 0⟩, ⟨9, 0⟩, ⟨0, 0⟩⟩, ⟨2, ⟨9, 0⟩, ⟨14, 5⟩, ⟨9, 5⟩⟩], 3⟩
def exRect : Sh := ⟨2, loopE [⟨0, 0⟩, ⟨4, 0⟩, ⟨4, 4⟩, ⟨0, 4⟩] 4, 0⟩
def exDs : List Dr := [⟨disc ⟨5, -3⟩ 2, false⟩, ⟨exRect, true⟩, ⟨exPath, false⟩]
def exFile : Bytes := [71, 48, 52, 32, 101, 116, 99, 104, 97, 110, 116, 42, 10, 37, 70, 83, 76, 65, 88, 57, 48, 89, 57, 48, 42, 37, 10, 37, 77, 79, 77, 77, 42, 37, 10, 37, 65, 68, 68, 49, 48, 67, 44, 52, 42, 37, 10, 37, 65, 68, 68, 49, 49, 67, 44, 54, 42, 37, 10, 37, 76, 80, 68, 42, 37, 10, 68, 49, 48, 42, 10, 88, 53, 89, 45, 51, 68, 48, 51, 42, 10, 37, 76, 80, 67, 42, 37, 10, 71, 51, 54, 42, 10, 88, 48, 89, 48, 68, 48, 50, 42, 10, 71, 48, 49, 88, 52, 89, 48, 68, 48, 49, 42, 10, 71, 48, 49, 88, 52, 89, 52, 68, 48, 49, 42, 10, 71, 48, 49, 88, 48, 89, 52, 68, 48, 49, 42, 10, 71, 48, 49, 88, 48, 89, 48, 68, 48, 49, 42, 10, 71, 51, 55, 42, 10, 37, 76, 80, 68, 42, 37, 10, 68, 49, 49, 42, 10, 88, 48, 89, 48, 68, 48, 50, 42, 10, 71, 48, 49, 88, 57, 89, 48, 68, 48, 49, 42, 10, 71, 48, 51, 88, 49, 52, 89, 53, 73, 48, 74, 53, 68, 48, 49, 42, 10, 77, 48, 50, 42, 10]
theorem ex_file : write exDs = (exFile, 0) := by decide +kernel
theorem ex_bad : write [⟨⟨0, [], 0⟩, false⟩] = ([], 12) := by decide +kernel
end Pl
